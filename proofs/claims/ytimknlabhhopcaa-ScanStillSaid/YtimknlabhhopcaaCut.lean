/- The contract of frame.Cut. -/
import Derived.Test.YtimknlabhhopcaaCutS
import Derived.Test.YtimknlabhhopcaaFrames
import Derived.Test.YtimknlabhhopcaaFrWholeP
import Derived.Shelf.Abstract
set_option linter.unusedVariables false
set_option linter.unusedSimpArgs false
namespace Go.Proofs.Ytimknlabhhopcaa
open Go.RowKit
theorem parts_spec (W w : World) (L : List HP) (hs : Sat W w L) (v : Value) (hv : v.oneCell' = true) :
    Calls Try.prog 71 #[v] w fun e w' => ∃ b, e = .returned (.func (.func 80) #[] #[.pointer (some ⟨b, 0, none⟩)]) ∧ Sat W w' (row b [v] 36 :: L) := by
  have hc := cells_one hv
  go_enter Try.func71, Try.ntmps71
  go_wp2_with (first
    | (guard_target = wpList _ _ _ (⟨some 1, .box _ _, _, _, _, _⟩ :: _) _ _; refine wpl (o := ⟨some 1, .box _ _, _, _, _, _⟩) rfl fun K hK => ?_; go_must (refine op_box hs rfl _ rfl [v] hc fun b1 w1 h => hK _ _ ?_); clear hs hK K; have hs := h; clear h; try dsimp only [List.set] at hs))
  go_ret
  exact ⟨b1, rfl, hs⟩
/-- The frames so far, in a variable. -/
def fvar (b : Nat) (fs : List Fr) : HP := fun F => ∃ x : Value × List (Fr × Value), x.2.map (·.1) = fs ∧ st [row b [x.1] 126, own x.1 110 fs.length 4 (frsCells x.2), bods x.2] F
theorem Sat.fvar_open {W w : World} {L : List HP} {b : Nat} {fs : List Fr} (h : Sat W w (fvar b fs :: L)) : ∃ (v : Value) (l : List (Fr × Value)), l.map (·.1) = fs ∧ Sat W w (row b [v] 126 :: own v 110 fs.length 4 (frsCells l) :: bods l :: L) := by
  obtain ⟨x, hx, hs⟩ := h.open_ (α := Value × List (Fr × Value)) (p := fun x => x.2.map (·.1) = fs) (L' := fun x => [row b [x.1] 126, own x.1 110 fs.length 4 (frsCells x.2), bods x.2]) (fun F hF => hF)
  exact ⟨x.1, x.2, hx, hs⟩
theorem Sat.fvar_shut {W w : World} {L : List HP} {b : Nat} {fs : List Fr} {v : Value} {l : List (Fr × Value)} (hl : l.map (·.1) = fs) (h : Sat W w (row b [v] 126 :: own v 110 fs.length 4 (frsCells l) :: bods l :: L)) : Sat W w (fvar b fs :: L) :=
  Sat.shut (L' := [row b [v] 126, own v 110 fs.length 4 (frsCells l), bods l]) h fun F hF => ⟨(v, l), hl, hF⟩
def cutX (l D b3 b4 b7 : Nat) (rec : Loop) (epoch seq : Nat) (M : List HP) (done : List (List UInt8)) : List HP :=
  blk l (.loop rec) :: blk D (.deferred (some [])) :: row b3 [.int .u32 (epoch : Nat)] 23 :: row b4 [.int .u32 (seq : Nat)] 23 :: fvar b7 (rawFrs epoch seq done) :: M
theorem cutX_has {l D b3 b4 b7 : Nat} {rec : Loop} {epoch seq : Nat} {M : List HP} {done : List (List UInt8)} {φ : PH → Prop} (h : Has M φ) : Has (cutX l D b3 b4 b7 rec epoch seq M done) φ := h.tail.tail.tail.tail.tail
theorem cut_rounds (W w : World) {fn : FuncId} {tmps : Array Value} {p : Tmp} {assign body : Code} {l D b1 b3 b4 b7 epoch seq : Nat} {M : List HP} {rec : List UInt8} {vrec : Value} (hrec : Has M (bytesAt vrec rec)) (hl : rec.length ≤ 140737488351232) (q : Tmp)
    (hs : Sat W w (row b1 [vrec] 36 :: cutX l D b3 b4 b7 (recOf fn tmps #[p] assign body D .ready none) epoch seq M []))
    (hassign : ∀ (v : Value) (K : Act → World → Prop) (w : World), K (Act.put { tmps := tmps.setIfInBounds p v, defers := [] } (some q) v) w → assign.wpIn (Fence.wide.inRound l) 0 Try.prog (Exit.then K (fun _ _ _ => False)) { tmps := tmps.setIfInBounds p v, defers := [] } w)
    (hbody : ∀ (A : HP) (done : List (List UInt8)) (b : List UInt8) (v : Value) (w : World), Sat W w (A :: cutX l D b3 b4 b7 (recOf fn tmps #[p] assign body D .busy none) epoch seq M done) → Has M (bytesAt v b) → b.length ≤ 50 → done.length ≤ 2814749767024 →
      body.wpIn (Fence.wide.inRound l) 0 Try.prog (roundPost Try.prog l fun e w' => e = .returned (.bool true) ∧ Sat W w' (A :: cutX l D b3 b4 b7 (recOf fn tmps #[p] assign body D .ready none) epoch seq M (done ++ [b]))) (Act.put { tmps := tmps.setIfInBounds p v, defers := [] } (some q) v) w) :
    CallsIn Fence.wide 0 Try.prog 80 (#[.func (.yield l) #[] #[]] ++ #[.pointer (some ⟨b1, 0, none⟩)]) w fun e w' => (∃ v, e = .returned v) ∧ ∃ v', Sat W w' (row b1 [v'] 36 :: cutX l D b3 b4 b7 (recOf fn tmps #[p] assign body D .ready none) epoch seq M (cuts rec)) :=
  parts1_spec W b1 l (cutX l D b3 b4 b7 (recOf fn tmps #[p] assign body D .ready none) epoch seq M) rec vrec M (fun _ _ h => cutX_has h) hl hrec (fun done b v w A hs hb h50 hd => yield_sat hs (hassign v) fun w2 hs2 => hbody A done b v w2 hs2 hb h50 hd) w hs
def twoC (b c : Nat) (v u : Value) (w : World) : Prop := w.cell? ⟨b, 0, none⟩ = some v ∧ w.cell? ⟨c, 0, none⟩ = some u
def cutPost (fs : List Fr) (W : World) (L : List HP) (e : Ending) (w' : World) : Prop := ∃ (v : Value) (l : List (Fr × Value)), e = .returned v ∧ l.map (·.1) = fs ∧ Sat W w' (own v 110 fs.length 4 (frsCells l) :: bods l :: L)
set_option maxRecDepth 100000 in
set_option maxHeartbeats 4000000 in
theorem cut_spec (W w : World) (L : List HP) (hs : Sat W w L) (epoch seq : Nat) (he : epoch < 4294967296) (hseq : seq < 4294967296) (v : Value) (rec : List UInt8) (hv : Has L (bytesAt v rec)) (hl : rec.length ≤ 140737488351232) :
    Calls Try.prog 54 #[.int .u32 (epoch : Nat), .int .u32 (seq : Nat), v] w (cutPost (cutF epoch seq rec) W L) := by
  obtain ⟨A, cap, rfl, hc1, hc2⟩ := slice_form (hs.bytes hv)
  refine callsIn_wide.1 (callsIn_of_wp_marks (F := Fence.wide) (n := 0) Try.func54 rfl trivial (wpIn_wide.2 ?_) rfl)
  simp only [Try.ntmps54, List.size_toArray, List.length_cons, List.length_nil, Nat.reduceAdd, Nat.reduceSub, Array.replicate_succ, Array.replicate_zero, List.push_toArray, List.append_toArray, List.nil_append, List.cons_append]
  go_wp2_with (first
    | (guard_target = wpList _ _ _ (⟨some 3, .box _ _, _, _, _, _⟩ :: _) _ _; refine wpl (o := ⟨some 3, .box _ _, _, _, _, _⟩) rfl fun K hK => ?_; go_must (refine op_box hs rfl _ rfl [.int .u32 (epoch : Nat)] rfl fun b3 w1 h => hK _ _ ?_); clear hs hK K; have hs := h; clear h; try dsimp only [List.set] at hs)
    | (guard_target = wpList _ _ _ (⟨some 4, .box _ _, _, _, _, _⟩ :: _) _ _; refine wpl (o := ⟨some 4, .box _ _, _, _, _, _⟩) rfl fun K hK => ?_; go_must (refine op_box hs rfl _ rfl [.int .u32 (seq : Nat)] rfl fun b4 w1 h => hK _ _ ?_); clear hs hK K; have hs := h; clear h; try dsimp only [List.set] at hs)
    | (guard_target = wpList _ _ _ (⟨some 7, .alloc _, _, _, _, _⟩ :: _) _ _; refine wpl (o := ⟨some 7, .alloc _, _, _, _, _⟩) rfl fun K hK => ?_; go_must (refine op_alloc hs rfl (.slice none 0 0) (by kernel_rfl) [.slice none 0 0] rfl fun b7 w1 h => hK _ _ ?_); clear hs hK K; have hs := h; clear h; try dsimp only [List.set] at hs)
    | (go_at_call 71; go_must (refine (parts_spec W _ _ hs _ rfl).mono ?_); clear hs; rintro e w1 ⟨b1, rfl, hs⟩))
  have hs0 : Sat W w1 (row b1 [.slice A rec.length cap] 36 :: row b3 [.int .u32 (epoch : Nat)] 23 :: row b4 [.int .u32 (seq : Nat)] 23 :: fvar b7 (rawFrs epoch seq []) :: L) := by
    have h1 := ((hs.bods_nil).addNil none 110 4).pick (A := row b7 [.slice none 0 0] 126) (by repeat (first | with_reducible exact Pick.here | with_reducible apply Pick.there))
    have h2 := Sat.fvar_shut (fs := []) (l := []) rfl h1
    rw [show rawFrs epoch seq [] = [] from rfl]
    exact h2.pack (by repeat (first | with_reducible exact Pack.refl | with_reducible exact Pack.nil | with_reducible refine Pack.cons (by repeat (first | with_reducible exact Pick.here | with_reducible apply Pick.there)) ?_ | with_reducible apply Pack.drop))
  clear hs
  refine wp_rangeFunc_sat hs0 rfl (enters_of Try.func80 (by kernel_rfl) rfl) ?_
  intro fn l D w2 hs
  clear hs0
  have hs1 := hs.pack (L := row b1 [.slice A rec.length cap] 36 :: cutX l D b3 b4 b7 _ epoch seq L []) (by unfold cutX; exact (by repeat (first | with_reducible exact Pack.refl | with_reducible exact Pack.nil | with_reducible refine Pack.cons (by repeat (first | with_reducible exact Pick.here | with_reducible apply Pick.there)) ?_ | with_reducible apply Pack.drop)))
  clear hs
  refine (cut_rounds W w2 hv hl 8 hs1 ?assign ?body).mono ?_
  case assign =>
    intro v K w hK
    refine wpIn_region_plain (ro := some l) (by kernel_rfl) (fun ⟨_, _, h⟩ => h) ?_
    go_wp2_with fail
    exact hK
  case body =>
    clear hs1
    intro A' done b v w hs hb h50 hd
    obtain ⟨Ab, cb, rfl, hb1, hb2⟩ := slice_form (hs.bytes ((cutX_has hb).tail))
    unfold cutX at hs
    obtain ⟨v7, l7, hl7, hs⟩ := (hs.pick (A := fvar b7 (rawFrs epoch seq done)) (by repeat (first | with_reducible exact Pick.here | with_reducible apply Pick.there))).fvar_open
    have hlen7 : (rawFrs epoch seq done).length = done.length := by simp
    rw [hlen7] at hs
    obtain ⟨A7, c7, rfl, _, _⟩ := own_slice hs (i := 1) rfl
    have cS : ∀ w M, Sat W w M → row b3 [.int .u32 (epoch : Nat)] 23 ∈ M → row b4 [.int .u32 (seq : Nat)] 23 ∈ M → twoC b3 b4 (.int .u32 (epoch : Nat)) (.int .u32 (seq : Nat)) w := fun w M h h3 h4 => ⟨h.cell h3 rfl, h.cell h4 rfl⟩
    have c3 : ∀ w, twoC b3 b4 (.int .u32 (epoch : Nat)) (.int .u32 (seq : Nat)) w → w.cell? ⟨b3, 0, none⟩ = some (.int .u32 (epoch : Nat)) := fun w h => h.1
    have c4 : ∀ w, twoC b3 b4 (.int .u32 (epoch : Nat)) (.int .u32 (seq : Nat)) w → w.cell? ⟨b4, 0, none⟩ = some (.int .u32 (seq : Nat)) := fun w h => h.2
    have hsum : IntKind.u32.wrap ((seq : Int) + IntKind.u32.wrap (done.length : Int)) = (((seq + done.length) % 4294967296 : Nat) : Int) := by
      rw [IntKind.wrap_u32, IntKind.wrap_u32]
      omega
    have hS0 := cS _ _ hs.drew (by (try dsimp only [List.set]); repeat (first | with_reducible exact List.mem_cons_self | with_reducible apply List.mem_cons_of_mem)) (by (try dsimp only [List.set]); repeat (first | with_reducible exact List.mem_cons_self | with_reducible apply List.mem_cons_of_mem))
    refine wpIn_block (wpIn_region_tree (ro := some l) (twoC b3 b4 (.int .u32 (epoch : Nat)) (.int .u32 (seq : Nat))) (.take 1 (.take 2 (.take 7 (.all [(0, .all [(3, .take 4 (.take 5 (.take 6 (.all [(8, .take 9 (.all [(10, .all [(11, .all [(12, DTree.done)])])]))])))), (8, .all [(3, .take 4 (.take 5 (.take 6 (.take 9 (.all [(10, .all [(11, .all [(12, DTree.done)])])])))))])]), (3, .take 4 (.take 5 (.take 6 (.all [(0, .all [(8, .take 9 (.all [(10, .all [(11, .all [(12, DTree.done)])])]))]), (8, .take 9 (.all [(0, .all [(10, .all [(11, .all [(12, DTree.done)])])]), (10, .all [(0, .all [(11, .all [(12, DTree.done)])])])]))])))), (8, .all [(0, .all [(3, .take 4 (.take 5 (.take 6 (.take 9 (.all [(10, .all [(11, .all [(12, DTree.done)])])])))))]), (3, .take 4 (.take 5 (.take 6 (.take 9 (.all [(0, .all [(10, .all [(11, .all [(12, DTree.done)])])]), (10, .all [(0, .all [(11, .all [(12, DTree.done)])])])])))))])])))) (by kernel_rfl) (by kernel_rfl) (by kernel_rfl) (by kernel_rfl) (fun _ _ d _ _ h => by cases d <;> exact h) (fun ⟨_, _, h⟩ => h) hS0 ?_)
    have hs' := hs.drew
    clear hs
    have hs := hs'
    clear hs'
    have hq := fun p : Prop => class_const hS0 p
    clear hS0
    repeat (first
      | (with_reducible refine tree_load (o := ⟨some 13, .load _ _, _, _, _, _⟩) rfl rfl rfl rfl rfl c3 ?_)
      | (with_reducible refine tree_load (o := ⟨some 14, .load _ _, _, _, _, _⟩) rfl rfl rfl rfl rfl c4 ?_)
      | (refine tree_take rfl (fun K hK => ?_); go_simp; (first | with_reducible refine hK _ ?_ | (rw [if_neg (by decide)]; with_reducible refine hK _ ?_)); clear hK K))
    refine tree_all (trees_cons_yes (o := _) rfl rfl (fun K hK => ?_) (cS _ _ hs (by (try dsimp only [List.set]); repeat (first | with_reducible exact List.mem_cons_self | with_reducible apply List.mem_cons_of_mem)) (by (try dsimp only [List.set]); repeat (first | with_reducible exact List.mem_cons_self | with_reducible apply List.mem_cons_of_mem))) (trees_cons_yes (o := _) rfl rfl (fun K hK => ?_) (cS _ _ hs (by (try dsimp only [List.set]); repeat (first | with_reducible exact List.mem_cons_self | with_reducible apply List.mem_cons_of_mem)) (by (try dsimp only [List.set]); repeat (first | with_reducible exact List.mem_cons_self | with_reducible apply List.mem_cons_of_mem))) (trees_cons_yes (o := _) rfl rfl (fun K hK => ?_) (cS _ _ hs (by (try dsimp only [List.set]); repeat (first | with_reducible exact List.mem_cons_self | with_reducible apply List.mem_cons_of_mem)) (by (try dsimp only [List.set]); repeat (first | with_reducible exact List.mem_cons_self | with_reducible apply List.mem_cons_of_mem))) trees_nil)))
    · refine op_load rfl (ad := ⟨b7, 0, none⟩) rfl (by kernel_rfl) (hs.cell (by (try dsimp only [List.set]); repeat (first | with_reducible exact List.mem_cons_self | with_reducible apply List.mem_cons_of_mem)) rfl) (hK _ _ (cS _ _ hs (by (try dsimp only [List.set]); repeat (first | with_reducible exact List.mem_cons_self | with_reducible apply List.mem_cons_of_mem)) (by (try dsimp only [List.set]); repeat (first | with_reducible exact List.mem_cons_self | with_reducible apply List.mem_cons_of_mem))) ?_)
      clear hK K
      try go_simp
      refine tree_all (trees_cons_yes (o := _) rfl rfl (fun K hK => ?_) (cS _ _ hs (by (try dsimp only [List.set]); repeat (first | with_reducible exact List.mem_cons_self | with_reducible apply List.mem_cons_of_mem)) (by (try dsimp only [List.set]); repeat (first | with_reducible exact List.mem_cons_self | with_reducible apply List.mem_cons_of_mem))) (trees_cons_yes (o := _) rfl rfl (fun K hK => ?_) (cS _ _ hs (by (try dsimp only [List.set]); repeat (first | with_reducible exact List.mem_cons_self | with_reducible apply List.mem_cons_of_mem)) (by (try dsimp only [List.set]); repeat (first | with_reducible exact List.mem_cons_self | with_reducible apply List.mem_cons_of_mem))) trees_nil))
      · refine op_load rfl (ad := ⟨b7, 0, none⟩) rfl (by kernel_rfl) (hs.cell (by (try dsimp only [List.set]); repeat (first | with_reducible exact List.mem_cons_self | with_reducible apply List.mem_cons_of_mem)) rfl) (hK _ _ (cS _ _ hs (by (try dsimp only [List.set]); repeat (first | with_reducible exact List.mem_cons_self | with_reducible apply List.mem_cons_of_mem)) (by (try dsimp only [List.set]); repeat (first | with_reducible exact List.mem_cons_self | with_reducible apply List.mem_cons_of_mem))) ?_)
        clear hK K
        try go_simp
        repeat (first
          | (with_reducible refine tree_load (o := ⟨some 13, .load _ _, _, _, _, _⟩) rfl rfl rfl rfl rfl c3 ?_)
          | (with_reducible refine tree_load (o := ⟨some 14, .load _ _, _, _, _, _⟩) rfl rfl rfl rfl rfl c4 ?_)
          | (refine tree_take rfl (fun K hK => ?_); go_simp; (first | with_reducible refine hK _ ?_ | (rw [if_neg (by decide)]; with_reducible refine hK _ ?_)); clear hK K))
        refine tree_one_yes (o := _) rfl rfl (fun K hK => ?_) (cS _ _ hs (by (try dsimp only [List.set]); repeat (first | with_reducible exact List.mem_cons_self | with_reducible apply List.mem_cons_of_mem)) (by (try dsimp only [List.set]); repeat (first | with_reducible exact List.mem_cons_self | with_reducible apply List.mem_cons_of_mem)))
        try go_simp
        go_at_call 49
        refine (clone_spec W _ _ hs _ b (by (try dsimp only [List.set]); repeat (first | exact hb | apply Has.tail)) (by omega)).mono ?_
        clear hs
        rintro e w5 ⟨v20, rfl, hs⟩
        obtain ⟨A20, c20, rfl, _, _⟩ := own_slice hs (i := 0) rfl
        try go_simp
        refine hK _ _ (cS _ _ hs (by (try dsimp only [List.set]); repeat (first | with_reducible exact List.mem_cons_self | with_reducible apply List.mem_cons_of_mem)) (by (try dsimp only [List.set]); repeat (first | with_reducible exact List.mem_cons_self | with_reducible apply List.mem_cons_of_mem))) ?_
        clear hK K
        repeat (first
          | (with_reducible refine tree_load (o := ⟨some 13, .load _ _, _, _, _, _⟩) rfl rfl rfl rfl rfl c3 ?_)
          | (with_reducible refine tree_load (o := ⟨some 14, .load _ _, _, _, _, _⟩) rfl rfl rfl rfl rfl c4 ?_)
          | (refine tree_take rfl (fun K hK => ?_); go_simp; (first | with_reducible refine hK _ ?_ | (rw [if_neg (by decide)]; with_reducible refine hK _ ?_)); clear hK K))
        refine tree_one_yes (o := _) rfl rfl (fun K hK => ?_) (cS _ _ hs (by (try dsimp only [List.set]); repeat (first | with_reducible exact List.mem_cons_self | with_reducible apply List.mem_cons_of_mem)) (by (try dsimp only [List.set]); repeat (first | with_reducible exact List.mem_cons_self | with_reducible apply List.mem_cons_of_mem)))
        refine op_lit_agg1 hs rfl Try.underlying126 info_frame [.int .u32 (epoch : Nat), .int .u32 (((seq : Int) + (done.length : Int)) % 4294967296), .int .u8 0, .slice A20 b.length c20] rfl rfl (by omega) (by omega) fun b22 w2 h => hK _ _ (cS _ _ h (by (try dsimp only [List.set]); repeat (first | with_reducible exact List.mem_cons_self | with_reducible apply List.mem_cons_of_mem)) (by (try dsimp only [List.set]); repeat (first | with_reducible exact List.mem_cons_self | with_reducible apply List.mem_cons_of_mem))) ?_
        clear hs hK K
        have hs := h
        clear h
        try dsimp only [List.set] at hs
        try go_simp
        refine tree_one_yes (o := _) rfl rfl (fun K hK => ?_) (cS _ _ hs (by (try dsimp only [List.set]); repeat (first | with_reducible exact List.mem_cons_self | with_reducible apply List.mem_cons_of_mem)) (by (try dsimp only [List.set]); repeat (first | with_reducible exact List.mem_cons_self | with_reducible apply List.mem_cons_of_mem)))
        refine op_append (hs.pick (A := own (.slice A7 done.length c7) 110 done.length 4 (frsCells l7)) (by repeat (first | with_reducible exact Pick.here | with_reducible apply Pick.there))) rfl Try.underlying126 Try.underlying126 info_frame rfl (by omega) (k := 0) rfl rfl rfl (Has.of (A := row b22 _ 110) (by (try dsimp only [List.set]); repeat (first | with_reducible exact List.mem_cons_self | with_reducible apply List.mem_cons_of_mem)) fun F hF => own_sliceAt F (own_exact (n := 1) (sz := 4) rfl (by omega) F hF)) (by simp [Value.oneCell']) (by omega) (by omega) fun v23 w2 h => hK _ _ (cS _ _ h (by (try dsimp only [List.set]); repeat (first | with_reducible exact List.mem_cons_self | with_reducible apply List.mem_cons_of_mem)) (by (try dsimp only [List.set]); repeat (first | with_reducible exact List.mem_cons_self | with_reducible apply List.mem_cons_of_mem))) ?_
        clear hs hK K
        have hs := h
        clear h
        try dsimp only [List.set] at hs
        obtain ⟨A23, c23, rfl, _, _⟩ := own_slice hs (i := 0) rfl
        try go_simp
        refine tree_one_yes (o := _) rfl rfl (fun K hK => ?_) (cS _ _ hs (by (try dsimp only [List.set]); repeat (first | with_reducible exact List.mem_cons_self | with_reducible apply List.mem_cons_of_mem)) (by (try dsimp only [List.set]); repeat (first | with_reducible exact List.mem_cons_self | with_reducible apply List.mem_cons_of_mem)))
        refine op_store (hs.pick (A := row b7 [.slice A7 done.length c7] 126) (by repeat (first | with_reducible exact Pick.here | with_reducible apply Pick.there))) rfl (b := b7) (i := 0) (v := .slice A23 (done.length + 1) c23) rfl rfl rfl (by kernel_rfl) (k := 0) rfl (by simp) fun w2 h => hK _ _ (cS _ _ h (by (try dsimp only [List.set]); repeat (first | with_reducible exact List.mem_cons_self | with_reducible apply List.mem_cons_of_mem)) (by (try dsimp only [List.set]); repeat (first | with_reducible exact List.mem_cons_self | with_reducible apply List.mem_cons_of_mem))) ?_
        clear hs hK K
        have hs := h
        clear h
        try dsimp only [List.set] at hs
        try go_simp
        refine tree_done ?_
        refine round_endB 0 (hs.pick (A := blk l _) (by repeat (first | with_reducible exact Pick.here | with_reducible apply Pick.there))) rfl fun w' h => ⟨rfl, ?_⟩
        dsimp only [List.set] at h
        have h1 := (h.pick (A := bods l7) (by repeat (first | with_reducible exact Pick.here | with_reducible apply Pick.there))).pick (A := own (.slice A20 b.length c20) 5 b.length 1 (u8s b)) (by repeat (first | with_reducible exact Pick.here | with_reducible apply Pick.there))
        have h2 := h1.sub (i := 0) rfl (B := bytesH (.slice A20 b.length c20) (rawFr epoch seq done.length b).body) fun F hF => own_sliceAt F hF
        dsimp only [List.set] at h2
        have h3 := (h2.bods_snoc.pick (A := own (.slice A23 (done.length + 1) c23) 110 (done.length + 1) 4 _) (by repeat (first | with_reducible exact Pick.here | with_reducible apply Pick.there))).pick (A := row b7 [.slice A23 (done.length + 1) c23] 126) (by repeat (first | with_reducible exact Pick.here | with_reducible apply Pick.there))
        have e1 : frsCells l7 ++ [.int .u32 (epoch : Nat), .int .u32 (((seq : Int) + (done.length : Int)) % 4294967296), .int .u8 0, .slice A20 b.length c20] = frsCells (l7 ++ [(rawFr epoch seq done.length b, .slice A20 b.length c20)]) := by
          rw [frsCells_snoc]; simp [frCells, rawFr]
        rw [e1] at h3
        have h4 := Sat.fvar_shut (fs := rawFrs epoch seq (done ++ [b])) (l := l7 ++ [(rawFr epoch seq done.length b, .slice A20 b.length c20)]) (by rw [rawFrs_snoc, List.map_append, hl7]; rfl) (by rw [rawFrs_length, List.length_append]; exact h3)
        unfold cutX
        exact h4.pack (by repeat (first | with_reducible exact Pack.refl | with_reducible exact Pack.nil | with_reducible refine Pack.cons (by repeat (first | with_reducible exact Pick.here | with_reducible apply Pick.there)) ?_ | with_reducible apply Pack.drop))
      · try go_simp
        go_at_call 49
        refine (clone_spec W _ _ hs _ b (by (try dsimp only [List.set]); repeat (first | exact hb | apply Has.tail)) (by omega)).mono ?_
        clear hs
        rintro e w5 ⟨v20, rfl, hs⟩
        obtain ⟨A20, c20, rfl, _, _⟩ := own_slice hs (i := 0) rfl
        try go_simp
        refine hK _ _ (cS _ _ hs (by (try dsimp only [List.set]); repeat (first | with_reducible exact List.mem_cons_self | with_reducible apply List.mem_cons_of_mem)) (by (try dsimp only [List.set]); repeat (first | with_reducible exact List.mem_cons_self | with_reducible apply List.mem_cons_of_mem))) ?_
        clear hK K
        refine tree_one_yes (o := _) rfl rfl (fun K hK => ?_) (cS _ _ hs (by (try dsimp only [List.set]); repeat (first | with_reducible exact List.mem_cons_self | with_reducible apply List.mem_cons_of_mem)) (by (try dsimp only [List.set]); repeat (first | with_reducible exact List.mem_cons_self | with_reducible apply List.mem_cons_of_mem)))
        refine op_load rfl (ad := ⟨b7, 0, none⟩) rfl (by kernel_rfl) (hs.cell (by (try dsimp only [List.set]); repeat (first | with_reducible exact List.mem_cons_self | with_reducible apply List.mem_cons_of_mem)) rfl) (hK _ _ (cS _ _ hs (by (try dsimp only [List.set]); repeat (first | with_reducible exact List.mem_cons_self | with_reducible apply List.mem_cons_of_mem)) (by (try dsimp only [List.set]); repeat (first | with_reducible exact List.mem_cons_self | with_reducible apply List.mem_cons_of_mem))) ?_)
        clear hK K
        try go_simp
        repeat (first
          | (with_reducible refine tree_load (o := ⟨some 13, .load _ _, _, _, _, _⟩) rfl rfl rfl rfl rfl c3 ?_)
          | (with_reducible refine tree_load (o := ⟨some 14, .load _ _, _, _, _, _⟩) rfl rfl rfl rfl rfl c4 ?_)
          | (refine tree_take rfl (fun K hK => ?_); go_simp; (first | with_reducible refine hK _ ?_ | (rw [if_neg (by decide)]; with_reducible refine hK _ ?_)); clear hK K))
        refine tree_one_yes (o := _) rfl rfl (fun K hK => ?_) (cS _ _ hs (by (try dsimp only [List.set]); repeat (first | with_reducible exact List.mem_cons_self | with_reducible apply List.mem_cons_of_mem)) (by (try dsimp only [List.set]); repeat (first | with_reducible exact List.mem_cons_self | with_reducible apply List.mem_cons_of_mem)))
        refine op_lit_agg1 hs rfl Try.underlying126 info_frame [.int .u32 (epoch : Nat), .int .u32 (((seq : Int) + (done.length : Int)) % 4294967296), .int .u8 0, .slice A20 b.length c20] rfl rfl (by omega) (by omega) fun b22 w2 h => hK _ _ (cS _ _ h (by (try dsimp only [List.set]); repeat (first | with_reducible exact List.mem_cons_self | with_reducible apply List.mem_cons_of_mem)) (by (try dsimp only [List.set]); repeat (first | with_reducible exact List.mem_cons_self | with_reducible apply List.mem_cons_of_mem))) ?_
        clear hs hK K
        have hs := h
        clear h
        try dsimp only [List.set] at hs
        try go_simp
        refine tree_one_yes (o := _) rfl rfl (fun K hK => ?_) (cS _ _ hs (by (try dsimp only [List.set]); repeat (first | with_reducible exact List.mem_cons_self | with_reducible apply List.mem_cons_of_mem)) (by (try dsimp only [List.set]); repeat (first | with_reducible exact List.mem_cons_self | with_reducible apply List.mem_cons_of_mem)))
        refine op_append (hs.pick (A := own (.slice A7 done.length c7) 110 done.length 4 (frsCells l7)) (by repeat (first | with_reducible exact Pick.here | with_reducible apply Pick.there))) rfl Try.underlying126 Try.underlying126 info_frame rfl (by omega) (k := 0) rfl rfl rfl (Has.of (A := row b22 _ 110) (by (try dsimp only [List.set]); repeat (first | with_reducible exact List.mem_cons_self | with_reducible apply List.mem_cons_of_mem)) fun F hF => own_sliceAt F (own_exact (n := 1) (sz := 4) rfl (by omega) F hF)) (by simp [Value.oneCell']) (by omega) (by omega) fun v23 w2 h => hK _ _ (cS _ _ h (by (try dsimp only [List.set]); repeat (first | with_reducible exact List.mem_cons_self | with_reducible apply List.mem_cons_of_mem)) (by (try dsimp only [List.set]); repeat (first | with_reducible exact List.mem_cons_self | with_reducible apply List.mem_cons_of_mem))) ?_
        clear hs hK K
        have hs := h
        clear h
        try dsimp only [List.set] at hs
        obtain ⟨A23, c23, rfl, _, _⟩ := own_slice hs (i := 0) rfl
        try go_simp
        refine tree_one_yes (o := _) rfl rfl (fun K hK => ?_) (cS _ _ hs (by (try dsimp only [List.set]); repeat (first | with_reducible exact List.mem_cons_self | with_reducible apply List.mem_cons_of_mem)) (by (try dsimp only [List.set]); repeat (first | with_reducible exact List.mem_cons_self | with_reducible apply List.mem_cons_of_mem)))
        refine op_store (hs.pick (A := row b7 [.slice A7 done.length c7] 126) (by repeat (first | with_reducible exact Pick.here | with_reducible apply Pick.there))) rfl (b := b7) (i := 0) (v := .slice A23 (done.length + 1) c23) rfl rfl rfl (by kernel_rfl) (k := 0) rfl (by simp) fun w2 h => hK _ _ (cS _ _ h (by (try dsimp only [List.set]); repeat (first | with_reducible exact List.mem_cons_self | with_reducible apply List.mem_cons_of_mem)) (by (try dsimp only [List.set]); repeat (first | with_reducible exact List.mem_cons_self | with_reducible apply List.mem_cons_of_mem))) ?_
        clear hs hK K
        have hs := h
        clear h
        try dsimp only [List.set] at hs
        try go_simp
        refine tree_done ?_
        refine round_endB 0 (hs.pick (A := blk l _) (by repeat (first | with_reducible exact Pick.here | with_reducible apply Pick.there))) rfl fun w' h => ⟨rfl, ?_⟩
        dsimp only [List.set] at h
        have h1 := (h.pick (A := bods l7) (by repeat (first | with_reducible exact Pick.here | with_reducible apply Pick.there))).pick (A := own (.slice A20 b.length c20) 5 b.length 1 (u8s b)) (by repeat (first | with_reducible exact Pick.here | with_reducible apply Pick.there))
        have h2 := h1.sub (i := 0) rfl (B := bytesH (.slice A20 b.length c20) (rawFr epoch seq done.length b).body) fun F hF => own_sliceAt F hF
        dsimp only [List.set] at h2
        have h3 := (h2.bods_snoc.pick (A := own (.slice A23 (done.length + 1) c23) 110 (done.length + 1) 4 _) (by repeat (first | with_reducible exact Pick.here | with_reducible apply Pick.there))).pick (A := row b7 [.slice A23 (done.length + 1) c23] 126) (by repeat (first | with_reducible exact Pick.here | with_reducible apply Pick.there))
        have e1 : frsCells l7 ++ [.int .u32 (epoch : Nat), .int .u32 (((seq : Int) + (done.length : Int)) % 4294967296), .int .u8 0, .slice A20 b.length c20] = frsCells (l7 ++ [(rawFr epoch seq done.length b, .slice A20 b.length c20)]) := by
          rw [frsCells_snoc]; simp [frCells, rawFr]
        rw [e1] at h3
        have h4 := Sat.fvar_shut (fs := rawFrs epoch seq (done ++ [b])) (l := l7 ++ [(rawFr epoch seq done.length b, .slice A20 b.length c20)]) (by rw [rawFrs_snoc, List.map_append, hl7]; rfl) (by rw [rawFrs_length, List.length_append]; exact h3)
        unfold cutX
        exact h4.pack (by repeat (first | with_reducible exact Pack.refl | with_reducible exact Pack.nil | with_reducible refine Pack.cons (by repeat (first | with_reducible exact Pick.here | with_reducible apply Pick.there)) ?_ | with_reducible apply Pack.drop))
    · refine op_load rfl (ad := ⟨b7, 0, none⟩) rfl (by kernel_rfl) (hs.cell (by (try dsimp only [List.set]); repeat (first | with_reducible exact List.mem_cons_self | with_reducible apply List.mem_cons_of_mem)) rfl) (hK _ _ (cS _ _ hs (by (try dsimp only [List.set]); repeat (first | with_reducible exact List.mem_cons_self | with_reducible apply List.mem_cons_of_mem)) (by (try dsimp only [List.set]); repeat (first | with_reducible exact List.mem_cons_self | with_reducible apply List.mem_cons_of_mem))) ?_)
      clear hK K
      try go_simp
      repeat (first
        | (with_reducible refine tree_load (o := ⟨some 13, .load _ _, _, _, _, _⟩) rfl rfl rfl rfl rfl c3 ?_)
        | (with_reducible refine tree_load (o := ⟨some 14, .load _ _, _, _, _, _⟩) rfl rfl rfl rfl rfl c4 ?_)
        | (refine tree_take rfl (fun K hK => ?_); go_simp; (first | with_reducible refine hK _ ?_ | (rw [if_neg (by decide)]; with_reducible refine hK _ ?_)); clear hK K))
      refine tree_all (trees_cons_yes (o := _) rfl rfl (fun K hK => ?_) (cS _ _ hs (by (try dsimp only [List.set]); repeat (first | with_reducible exact List.mem_cons_self | with_reducible apply List.mem_cons_of_mem)) (by (try dsimp only [List.set]); repeat (first | with_reducible exact List.mem_cons_self | with_reducible apply List.mem_cons_of_mem))) (trees_cons_yes (o := _) rfl rfl (fun K hK => ?_) (cS _ _ hs (by (try dsimp only [List.set]); repeat (first | with_reducible exact List.mem_cons_self | with_reducible apply List.mem_cons_of_mem)) (by (try dsimp only [List.set]); repeat (first | with_reducible exact List.mem_cons_self | with_reducible apply List.mem_cons_of_mem))) trees_nil))
      · refine op_load rfl (ad := ⟨b7, 0, none⟩) rfl (by kernel_rfl) (hs.cell (by (try dsimp only [List.set]); repeat (first | with_reducible exact List.mem_cons_self | with_reducible apply List.mem_cons_of_mem)) rfl) (hK _ _ (cS _ _ hs (by (try dsimp only [List.set]); repeat (first | with_reducible exact List.mem_cons_self | with_reducible apply List.mem_cons_of_mem)) (by (try dsimp only [List.set]); repeat (first | with_reducible exact List.mem_cons_self | with_reducible apply List.mem_cons_of_mem))) ?_)
        clear hK K
        try go_simp
        refine tree_one_yes (o := _) rfl rfl (fun K hK => ?_) (cS _ _ hs (by (try dsimp only [List.set]); repeat (first | with_reducible exact List.mem_cons_self | with_reducible apply List.mem_cons_of_mem)) (by (try dsimp only [List.set]); repeat (first | with_reducible exact List.mem_cons_self | with_reducible apply List.mem_cons_of_mem)))
        try go_simp
        go_at_call 49
        refine (clone_spec W _ _ hs _ b (by (try dsimp only [List.set]); repeat (first | exact hb | apply Has.tail)) (by omega)).mono ?_
        clear hs
        rintro e w5 ⟨v20, rfl, hs⟩
        obtain ⟨A20, c20, rfl, _, _⟩ := own_slice hs (i := 0) rfl
        try go_simp
        refine hK _ _ (cS _ _ hs (by (try dsimp only [List.set]); repeat (first | with_reducible exact List.mem_cons_self | with_reducible apply List.mem_cons_of_mem)) (by (try dsimp only [List.set]); repeat (first | with_reducible exact List.mem_cons_self | with_reducible apply List.mem_cons_of_mem))) ?_
        clear hK K
        repeat (first
          | (with_reducible refine tree_load (o := ⟨some 13, .load _ _, _, _, _, _⟩) rfl rfl rfl rfl rfl c3 ?_)
          | (with_reducible refine tree_load (o := ⟨some 14, .load _ _, _, _, _, _⟩) rfl rfl rfl rfl rfl c4 ?_)
          | (refine tree_take rfl (fun K hK => ?_); go_simp; (first | with_reducible refine hK _ ?_ | (rw [if_neg (by decide)]; with_reducible refine hK _ ?_)); clear hK K))
        refine tree_one_yes (o := _) rfl rfl (fun K hK => ?_) (cS _ _ hs (by (try dsimp only [List.set]); repeat (first | with_reducible exact List.mem_cons_self | with_reducible apply List.mem_cons_of_mem)) (by (try dsimp only [List.set]); repeat (first | with_reducible exact List.mem_cons_self | with_reducible apply List.mem_cons_of_mem)))
        refine op_lit_agg1 hs rfl Try.underlying126 info_frame [.int .u32 (epoch : Nat), .int .u32 (((seq : Int) + (done.length : Int)) % 4294967296), .int .u8 0, .slice A20 b.length c20] rfl rfl (by omega) (by omega) fun b22 w2 h => hK _ _ (cS _ _ h (by (try dsimp only [List.set]); repeat (first | with_reducible exact List.mem_cons_self | with_reducible apply List.mem_cons_of_mem)) (by (try dsimp only [List.set]); repeat (first | with_reducible exact List.mem_cons_self | with_reducible apply List.mem_cons_of_mem))) ?_
        clear hs hK K
        have hs := h
        clear h
        try dsimp only [List.set] at hs
        try go_simp
        refine tree_one_yes (o := _) rfl rfl (fun K hK => ?_) (cS _ _ hs (by (try dsimp only [List.set]); repeat (first | with_reducible exact List.mem_cons_self | with_reducible apply List.mem_cons_of_mem)) (by (try dsimp only [List.set]); repeat (first | with_reducible exact List.mem_cons_self | with_reducible apply List.mem_cons_of_mem)))
        refine op_append (hs.pick (A := own (.slice A7 done.length c7) 110 done.length 4 (frsCells l7)) (by repeat (first | with_reducible exact Pick.here | with_reducible apply Pick.there))) rfl Try.underlying126 Try.underlying126 info_frame rfl (by omega) (k := 0) rfl rfl rfl (Has.of (A := row b22 _ 110) (by (try dsimp only [List.set]); repeat (first | with_reducible exact List.mem_cons_self | with_reducible apply List.mem_cons_of_mem)) fun F hF => own_sliceAt F (own_exact (n := 1) (sz := 4) rfl (by omega) F hF)) (by simp [Value.oneCell']) (by omega) (by omega) fun v23 w2 h => hK _ _ (cS _ _ h (by (try dsimp only [List.set]); repeat (first | with_reducible exact List.mem_cons_self | with_reducible apply List.mem_cons_of_mem)) (by (try dsimp only [List.set]); repeat (first | with_reducible exact List.mem_cons_self | with_reducible apply List.mem_cons_of_mem))) ?_
        clear hs hK K
        have hs := h
        clear h
        try dsimp only [List.set] at hs
        obtain ⟨A23, c23, rfl, _, _⟩ := own_slice hs (i := 0) rfl
        try go_simp
        refine tree_one_yes (o := _) rfl rfl (fun K hK => ?_) (cS _ _ hs (by (try dsimp only [List.set]); repeat (first | with_reducible exact List.mem_cons_self | with_reducible apply List.mem_cons_of_mem)) (by (try dsimp only [List.set]); repeat (first | with_reducible exact List.mem_cons_self | with_reducible apply List.mem_cons_of_mem)))
        refine op_store (hs.pick (A := row b7 [.slice A7 done.length c7] 126) (by repeat (first | with_reducible exact Pick.here | with_reducible apply Pick.there))) rfl (b := b7) (i := 0) (v := .slice A23 (done.length + 1) c23) rfl rfl rfl (by kernel_rfl) (k := 0) rfl (by simp) fun w2 h => hK _ _ (cS _ _ h (by (try dsimp only [List.set]); repeat (first | with_reducible exact List.mem_cons_self | with_reducible apply List.mem_cons_of_mem)) (by (try dsimp only [List.set]); repeat (first | with_reducible exact List.mem_cons_self | with_reducible apply List.mem_cons_of_mem))) ?_
        clear hs hK K
        have hs := h
        clear h
        try dsimp only [List.set] at hs
        try go_simp
        refine tree_done ?_
        refine round_endB 0 (hs.pick (A := blk l _) (by repeat (first | with_reducible exact Pick.here | with_reducible apply Pick.there))) rfl fun w' h => ⟨rfl, ?_⟩
        dsimp only [List.set] at h
        have h1 := (h.pick (A := bods l7) (by repeat (first | with_reducible exact Pick.here | with_reducible apply Pick.there))).pick (A := own (.slice A20 b.length c20) 5 b.length 1 (u8s b)) (by repeat (first | with_reducible exact Pick.here | with_reducible apply Pick.there))
        have h2 := h1.sub (i := 0) rfl (B := bytesH (.slice A20 b.length c20) (rawFr epoch seq done.length b).body) fun F hF => own_sliceAt F hF
        dsimp only [List.set] at h2
        have h3 := (h2.bods_snoc.pick (A := own (.slice A23 (done.length + 1) c23) 110 (done.length + 1) 4 _) (by repeat (first | with_reducible exact Pick.here | with_reducible apply Pick.there))).pick (A := row b7 [.slice A23 (done.length + 1) c23] 126) (by repeat (first | with_reducible exact Pick.here | with_reducible apply Pick.there))
        have e1 : frsCells l7 ++ [.int .u32 (epoch : Nat), .int .u32 (((seq : Int) + (done.length : Int)) % 4294967296), .int .u8 0, .slice A20 b.length c20] = frsCells (l7 ++ [(rawFr epoch seq done.length b, .slice A20 b.length c20)]) := by
          rw [frsCells_snoc]; simp [frCells, rawFr]
        rw [e1] at h3
        have h4 := Sat.fvar_shut (fs := rawFrs epoch seq (done ++ [b])) (l := l7 ++ [(rawFr epoch seq done.length b, .slice A20 b.length c20)]) (by rw [rawFrs_snoc, List.map_append, hl7]; rfl) (by rw [rawFrs_length, List.length_append]; exact h3)
        unfold cutX
        exact h4.pack (by repeat (first | with_reducible exact Pack.refl | with_reducible exact Pack.nil | with_reducible refine Pack.cons (by repeat (first | with_reducible exact Pick.here | with_reducible apply Pick.there)) ?_ | with_reducible apply Pack.drop))
      · try go_simp
        go_at_call 49
        refine (clone_spec W _ _ hs _ b (by (try dsimp only [List.set]); repeat (first | exact hb | apply Has.tail)) (by omega)).mono ?_
        clear hs
        rintro e w5 ⟨v20, rfl, hs⟩
        obtain ⟨A20, c20, rfl, _, _⟩ := own_slice hs (i := 0) rfl
        try go_simp
        refine hK _ _ (cS _ _ hs (by (try dsimp only [List.set]); repeat (first | with_reducible exact List.mem_cons_self | with_reducible apply List.mem_cons_of_mem)) (by (try dsimp only [List.set]); repeat (first | with_reducible exact List.mem_cons_self | with_reducible apply List.mem_cons_of_mem))) ?_
        clear hK K
        repeat (first
          | (with_reducible refine tree_load (o := ⟨some 13, .load _ _, _, _, _, _⟩) rfl rfl rfl rfl rfl c3 ?_)
          | (with_reducible refine tree_load (o := ⟨some 14, .load _ _, _, _, _, _⟩) rfl rfl rfl rfl rfl c4 ?_)
          | (refine tree_take rfl (fun K hK => ?_); go_simp; (first | with_reducible refine hK _ ?_ | (rw [if_neg (by decide)]; with_reducible refine hK _ ?_)); clear hK K))
        refine tree_all (trees_cons_yes (o := _) rfl rfl (fun K hK => ?_) (cS _ _ hs (by (try dsimp only [List.set]); repeat (first | with_reducible exact List.mem_cons_self | with_reducible apply List.mem_cons_of_mem)) (by (try dsimp only [List.set]); repeat (first | with_reducible exact List.mem_cons_self | with_reducible apply List.mem_cons_of_mem))) (trees_cons_yes (o := _) rfl rfl (fun K hK => ?_) (cS _ _ hs (by (try dsimp only [List.set]); repeat (first | with_reducible exact List.mem_cons_self | with_reducible apply List.mem_cons_of_mem)) (by (try dsimp only [List.set]); repeat (first | with_reducible exact List.mem_cons_self | with_reducible apply List.mem_cons_of_mem))) trees_nil))
        · refine op_load rfl (ad := ⟨b7, 0, none⟩) rfl (by kernel_rfl) (hs.cell (by (try dsimp only [List.set]); repeat (first | with_reducible exact List.mem_cons_self | with_reducible apply List.mem_cons_of_mem)) rfl) (hK _ _ (cS _ _ hs (by (try dsimp only [List.set]); repeat (first | with_reducible exact List.mem_cons_self | with_reducible apply List.mem_cons_of_mem)) (by (try dsimp only [List.set]); repeat (first | with_reducible exact List.mem_cons_self | with_reducible apply List.mem_cons_of_mem))) ?_)
          clear hK K
          try go_simp
          refine tree_one_yes (o := _) rfl rfl (fun K hK => ?_) (cS _ _ hs (by (try dsimp only [List.set]); repeat (first | with_reducible exact List.mem_cons_self | with_reducible apply List.mem_cons_of_mem)) (by (try dsimp only [List.set]); repeat (first | with_reducible exact List.mem_cons_self | with_reducible apply List.mem_cons_of_mem)))
          refine op_lit_agg1 hs rfl Try.underlying126 info_frame [.int .u32 (epoch : Nat), .int .u32 (((seq : Int) + (done.length : Int)) % 4294967296), .int .u8 0, .slice A20 b.length c20] rfl rfl (by omega) (by omega) fun b22 w2 h => hK _ _ (cS _ _ h (by (try dsimp only [List.set]); repeat (first | with_reducible exact List.mem_cons_self | with_reducible apply List.mem_cons_of_mem)) (by (try dsimp only [List.set]); repeat (first | with_reducible exact List.mem_cons_self | with_reducible apply List.mem_cons_of_mem))) ?_
          clear hs hK K
          have hs := h
          clear h
          try dsimp only [List.set] at hs
          try go_simp
          refine tree_one_yes (o := _) rfl rfl (fun K hK => ?_) (cS _ _ hs (by (try dsimp only [List.set]); repeat (first | with_reducible exact List.mem_cons_self | with_reducible apply List.mem_cons_of_mem)) (by (try dsimp only [List.set]); repeat (first | with_reducible exact List.mem_cons_self | with_reducible apply List.mem_cons_of_mem)))
          refine op_append (hs.pick (A := own (.slice A7 done.length c7) 110 done.length 4 (frsCells l7)) (by repeat (first | with_reducible exact Pick.here | with_reducible apply Pick.there))) rfl Try.underlying126 Try.underlying126 info_frame rfl (by omega) (k := 0) rfl rfl rfl (Has.of (A := row b22 _ 110) (by (try dsimp only [List.set]); repeat (first | with_reducible exact List.mem_cons_self | with_reducible apply List.mem_cons_of_mem)) fun F hF => own_sliceAt F (own_exact (n := 1) (sz := 4) rfl (by omega) F hF)) (by simp [Value.oneCell']) (by omega) (by omega) fun v23 w2 h => hK _ _ (cS _ _ h (by (try dsimp only [List.set]); repeat (first | with_reducible exact List.mem_cons_self | with_reducible apply List.mem_cons_of_mem)) (by (try dsimp only [List.set]); repeat (first | with_reducible exact List.mem_cons_self | with_reducible apply List.mem_cons_of_mem))) ?_
          clear hs hK K
          have hs := h
          clear h
          try dsimp only [List.set] at hs
          obtain ⟨A23, c23, rfl, _, _⟩ := own_slice hs (i := 0) rfl
          try go_simp
          refine tree_one_yes (o := _) rfl rfl (fun K hK => ?_) (cS _ _ hs (by (try dsimp only [List.set]); repeat (first | with_reducible exact List.mem_cons_self | with_reducible apply List.mem_cons_of_mem)) (by (try dsimp only [List.set]); repeat (first | with_reducible exact List.mem_cons_self | with_reducible apply List.mem_cons_of_mem)))
          refine op_store (hs.pick (A := row b7 [.slice A7 done.length c7] 126) (by repeat (first | with_reducible exact Pick.here | with_reducible apply Pick.there))) rfl (b := b7) (i := 0) (v := .slice A23 (done.length + 1) c23) rfl rfl rfl (by kernel_rfl) (k := 0) rfl (by simp) fun w2 h => hK _ _ (cS _ _ h (by (try dsimp only [List.set]); repeat (first | with_reducible exact List.mem_cons_self | with_reducible apply List.mem_cons_of_mem)) (by (try dsimp only [List.set]); repeat (first | with_reducible exact List.mem_cons_self | with_reducible apply List.mem_cons_of_mem))) ?_
          clear hs hK K
          have hs := h
          clear h
          try dsimp only [List.set] at hs
          try go_simp
          refine tree_done ?_
          refine round_endB 0 (hs.pick (A := blk l _) (by repeat (first | with_reducible exact Pick.here | with_reducible apply Pick.there))) rfl fun w' h => ⟨rfl, ?_⟩
          dsimp only [List.set] at h
          have h1 := (h.pick (A := bods l7) (by repeat (first | with_reducible exact Pick.here | with_reducible apply Pick.there))).pick (A := own (.slice A20 b.length c20) 5 b.length 1 (u8s b)) (by repeat (first | with_reducible exact Pick.here | with_reducible apply Pick.there))
          have h2 := h1.sub (i := 0) rfl (B := bytesH (.slice A20 b.length c20) (rawFr epoch seq done.length b).body) fun F hF => own_sliceAt F hF
          dsimp only [List.set] at h2
          have h3 := (h2.bods_snoc.pick (A := own (.slice A23 (done.length + 1) c23) 110 (done.length + 1) 4 _) (by repeat (first | with_reducible exact Pick.here | with_reducible apply Pick.there))).pick (A := row b7 [.slice A23 (done.length + 1) c23] 126) (by repeat (first | with_reducible exact Pick.here | with_reducible apply Pick.there))
          have e1 : frsCells l7 ++ [.int .u32 (epoch : Nat), .int .u32 (((seq : Int) + (done.length : Int)) % 4294967296), .int .u8 0, .slice A20 b.length c20] = frsCells (l7 ++ [(rawFr epoch seq done.length b, .slice A20 b.length c20)]) := by
            rw [frsCells_snoc]; simp [frCells, rawFr]
          rw [e1] at h3
          have h4 := Sat.fvar_shut (fs := rawFrs epoch seq (done ++ [b])) (l := l7 ++ [(rawFr epoch seq done.length b, .slice A20 b.length c20)]) (by rw [rawFrs_snoc, List.map_append, hl7]; rfl) (by rw [rawFrs_length, List.length_append]; exact h3)
          unfold cutX
          exact h4.pack (by repeat (first | with_reducible exact Pack.refl | with_reducible exact Pack.nil | with_reducible refine Pack.cons (by repeat (first | with_reducible exact Pick.here | with_reducible apply Pick.there)) ?_ | with_reducible apply Pack.drop))
        · refine op_lit_agg1 hs rfl Try.underlying126 info_frame [.int .u32 (epoch : Nat), .int .u32 (((seq : Int) + (done.length : Int)) % 4294967296), .int .u8 0, .slice A20 b.length c20] rfl rfl (by omega) (by omega) fun b22 w2 h => hK _ _ (cS _ _ h (by (try dsimp only [List.set]); repeat (first | with_reducible exact List.mem_cons_self | with_reducible apply List.mem_cons_of_mem)) (by (try dsimp only [List.set]); repeat (first | with_reducible exact List.mem_cons_self | with_reducible apply List.mem_cons_of_mem))) ?_
          clear hs hK K
          have hs := h
          clear h
          try dsimp only [List.set] at hs
          try go_simp
          refine tree_one_yes (o := _) rfl rfl (fun K hK => ?_) (cS _ _ hs (by (try dsimp only [List.set]); repeat (first | with_reducible exact List.mem_cons_self | with_reducible apply List.mem_cons_of_mem)) (by (try dsimp only [List.set]); repeat (first | with_reducible exact List.mem_cons_self | with_reducible apply List.mem_cons_of_mem)))
          refine op_load rfl (ad := ⟨b7, 0, none⟩) rfl (by kernel_rfl) (hs.cell (by (try dsimp only [List.set]); repeat (first | with_reducible exact List.mem_cons_self | with_reducible apply List.mem_cons_of_mem)) rfl) (hK _ _ (cS _ _ hs (by (try dsimp only [List.set]); repeat (first | with_reducible exact List.mem_cons_self | with_reducible apply List.mem_cons_of_mem)) (by (try dsimp only [List.set]); repeat (first | with_reducible exact List.mem_cons_self | with_reducible apply List.mem_cons_of_mem))) ?_)
          clear hK K
          try go_simp
          refine tree_one_yes (o := _) rfl rfl (fun K hK => ?_) (cS _ _ hs (by (try dsimp only [List.set]); repeat (first | with_reducible exact List.mem_cons_self | with_reducible apply List.mem_cons_of_mem)) (by (try dsimp only [List.set]); repeat (first | with_reducible exact List.mem_cons_self | with_reducible apply List.mem_cons_of_mem)))
          refine op_append (hs.pick (A := own (.slice A7 done.length c7) 110 done.length 4 (frsCells l7)) (by repeat (first | with_reducible exact Pick.here | with_reducible apply Pick.there))) rfl Try.underlying126 Try.underlying126 info_frame rfl (by omega) (k := 0) rfl rfl rfl (Has.of (A := row b22 _ 110) (by (try dsimp only [List.set]); repeat (first | with_reducible exact List.mem_cons_self | with_reducible apply List.mem_cons_of_mem)) fun F hF => own_sliceAt F (own_exact (n := 1) (sz := 4) rfl (by omega) F hF)) (by simp [Value.oneCell']) (by omega) (by omega) fun v23 w2 h => hK _ _ (cS _ _ h (by (try dsimp only [List.set]); repeat (first | with_reducible exact List.mem_cons_self | with_reducible apply List.mem_cons_of_mem)) (by (try dsimp only [List.set]); repeat (first | with_reducible exact List.mem_cons_self | with_reducible apply List.mem_cons_of_mem))) ?_
          clear hs hK K
          have hs := h
          clear h
          try dsimp only [List.set] at hs
          obtain ⟨A23, c23, rfl, _, _⟩ := own_slice hs (i := 0) rfl
          try go_simp
          refine tree_one_yes (o := _) rfl rfl (fun K hK => ?_) (cS _ _ hs (by (try dsimp only [List.set]); repeat (first | with_reducible exact List.mem_cons_self | with_reducible apply List.mem_cons_of_mem)) (by (try dsimp only [List.set]); repeat (first | with_reducible exact List.mem_cons_self | with_reducible apply List.mem_cons_of_mem)))
          refine op_store (hs.pick (A := row b7 [.slice A7 done.length c7] 126) (by repeat (first | with_reducible exact Pick.here | with_reducible apply Pick.there))) rfl (b := b7) (i := 0) (v := .slice A23 (done.length + 1) c23) rfl rfl rfl (by kernel_rfl) (k := 0) rfl (by simp) fun w2 h => hK _ _ (cS _ _ h (by (try dsimp only [List.set]); repeat (first | with_reducible exact List.mem_cons_self | with_reducible apply List.mem_cons_of_mem)) (by (try dsimp only [List.set]); repeat (first | with_reducible exact List.mem_cons_self | with_reducible apply List.mem_cons_of_mem))) ?_
          clear hs hK K
          have hs := h
          clear h
          try dsimp only [List.set] at hs
          try go_simp
          refine tree_done ?_
          refine round_endB 0 (hs.pick (A := blk l _) (by repeat (first | with_reducible exact Pick.here | with_reducible apply Pick.there))) rfl fun w' h => ⟨rfl, ?_⟩
          dsimp only [List.set] at h
          have h1 := (h.pick (A := bods l7) (by repeat (first | with_reducible exact Pick.here | with_reducible apply Pick.there))).pick (A := own (.slice A20 b.length c20) 5 b.length 1 (u8s b)) (by repeat (first | with_reducible exact Pick.here | with_reducible apply Pick.there))
          have h2 := h1.sub (i := 0) rfl (B := bytesH (.slice A20 b.length c20) (rawFr epoch seq done.length b).body) fun F hF => own_sliceAt F hF
          dsimp only [List.set] at h2
          have h3 := (h2.bods_snoc.pick (A := own (.slice A23 (done.length + 1) c23) 110 (done.length + 1) 4 _) (by repeat (first | with_reducible exact Pick.here | with_reducible apply Pick.there))).pick (A := row b7 [.slice A23 (done.length + 1) c23] 126) (by repeat (first | with_reducible exact Pick.here | with_reducible apply Pick.there))
          have e1 : frsCells l7 ++ [.int .u32 (epoch : Nat), .int .u32 (((seq : Int) + (done.length : Int)) % 4294967296), .int .u8 0, .slice A20 b.length c20] = frsCells (l7 ++ [(rawFr epoch seq done.length b, .slice A20 b.length c20)]) := by
            rw [frsCells_snoc]; simp [frCells, rawFr]
          rw [e1] at h3
          have h4 := Sat.fvar_shut (fs := rawFrs epoch seq (done ++ [b])) (l := l7 ++ [(rawFr epoch seq done.length b, .slice A20 b.length c20)]) (by rw [rawFrs_snoc, List.map_append, hl7]; rfl) (by rw [rawFrs_length, List.length_append]; exact h3)
          unfold cutX
          exact h4.pack (by repeat (first | with_reducible exact Pack.refl | with_reducible exact Pack.nil | with_reducible refine Pack.cons (by repeat (first | with_reducible exact Pick.here | with_reducible apply Pick.there)) ?_ | with_reducible apply Pack.drop))
    · try go_simp
      go_at_call 49
      refine (clone_spec W _ _ hs _ b (by (try dsimp only [List.set]); repeat (first | exact hb | apply Has.tail)) (by omega)).mono ?_
      clear hs
      rintro e w5 ⟨v20, rfl, hs⟩
      obtain ⟨A20, c20, rfl, _, _⟩ := own_slice hs (i := 0) rfl
      try go_simp
      refine hK _ _ (cS _ _ hs (by (try dsimp only [List.set]); repeat (first | with_reducible exact List.mem_cons_self | with_reducible apply List.mem_cons_of_mem)) (by (try dsimp only [List.set]); repeat (first | with_reducible exact List.mem_cons_self | with_reducible apply List.mem_cons_of_mem))) ?_
      clear hK K
      refine tree_all (trees_cons_yes (o := _) rfl rfl (fun K hK => ?_) (cS _ _ hs (by (try dsimp only [List.set]); repeat (first | with_reducible exact List.mem_cons_self | with_reducible apply List.mem_cons_of_mem)) (by (try dsimp only [List.set]); repeat (first | with_reducible exact List.mem_cons_self | with_reducible apply List.mem_cons_of_mem))) (trees_cons_yes (o := _) rfl rfl (fun K hK => ?_) (cS _ _ hs (by (try dsimp only [List.set]); repeat (first | with_reducible exact List.mem_cons_self | with_reducible apply List.mem_cons_of_mem)) (by (try dsimp only [List.set]); repeat (first | with_reducible exact List.mem_cons_self | with_reducible apply List.mem_cons_of_mem))) trees_nil))
      · refine op_load rfl (ad := ⟨b7, 0, none⟩) rfl (by kernel_rfl) (hs.cell (by (try dsimp only [List.set]); repeat (first | with_reducible exact List.mem_cons_self | with_reducible apply List.mem_cons_of_mem)) rfl) (hK _ _ (cS _ _ hs (by (try dsimp only [List.set]); repeat (first | with_reducible exact List.mem_cons_self | with_reducible apply List.mem_cons_of_mem)) (by (try dsimp only [List.set]); repeat (first | with_reducible exact List.mem_cons_self | with_reducible apply List.mem_cons_of_mem))) ?_)
        clear hK K
        try go_simp
        refine tree_one_yes (o := _) rfl rfl (fun K hK => ?_) (cS _ _ hs (by (try dsimp only [List.set]); repeat (first | with_reducible exact List.mem_cons_self | with_reducible apply List.mem_cons_of_mem)) (by (try dsimp only [List.set]); repeat (first | with_reducible exact List.mem_cons_self | with_reducible apply List.mem_cons_of_mem)))
        refine op_load rfl (ad := ⟨b7, 0, none⟩) rfl (by kernel_rfl) (hs.cell (by (try dsimp only [List.set]); repeat (first | with_reducible exact List.mem_cons_self | with_reducible apply List.mem_cons_of_mem)) rfl) (hK _ _ (cS _ _ hs (by (try dsimp only [List.set]); repeat (first | with_reducible exact List.mem_cons_self | with_reducible apply List.mem_cons_of_mem)) (by (try dsimp only [List.set]); repeat (first | with_reducible exact List.mem_cons_self | with_reducible apply List.mem_cons_of_mem))) ?_)
        clear hK K
        try go_simp
        repeat (first
          | (with_reducible refine tree_load (o := ⟨some 13, .load _ _, _, _, _, _⟩) rfl rfl rfl rfl rfl c3 ?_)
          | (with_reducible refine tree_load (o := ⟨some 14, .load _ _, _, _, _, _⟩) rfl rfl rfl rfl rfl c4 ?_)
          | (refine tree_take rfl (fun K hK => ?_); go_simp; (first | with_reducible refine hK _ ?_ | (rw [if_neg (by decide)]; with_reducible refine hK _ ?_)); clear hK K))
        refine tree_one_yes (o := _) rfl rfl (fun K hK => ?_) (cS _ _ hs (by (try dsimp only [List.set]); repeat (first | with_reducible exact List.mem_cons_self | with_reducible apply List.mem_cons_of_mem)) (by (try dsimp only [List.set]); repeat (first | with_reducible exact List.mem_cons_self | with_reducible apply List.mem_cons_of_mem)))
        refine op_lit_agg1 hs rfl Try.underlying126 info_frame [.int .u32 (epoch : Nat), .int .u32 (((seq : Int) + (done.length : Int)) % 4294967296), .int .u8 0, .slice A20 b.length c20] rfl rfl (by omega) (by omega) fun b22 w2 h => hK _ _ (cS _ _ h (by (try dsimp only [List.set]); repeat (first | with_reducible exact List.mem_cons_self | with_reducible apply List.mem_cons_of_mem)) (by (try dsimp only [List.set]); repeat (first | with_reducible exact List.mem_cons_self | with_reducible apply List.mem_cons_of_mem))) ?_
        clear hs hK K
        have hs := h
        clear h
        try dsimp only [List.set] at hs
        try go_simp
        refine tree_one_yes (o := _) rfl rfl (fun K hK => ?_) (cS _ _ hs (by (try dsimp only [List.set]); repeat (first | with_reducible exact List.mem_cons_self | with_reducible apply List.mem_cons_of_mem)) (by (try dsimp only [List.set]); repeat (first | with_reducible exact List.mem_cons_self | with_reducible apply List.mem_cons_of_mem)))
        refine op_append (hs.pick (A := own (.slice A7 done.length c7) 110 done.length 4 (frsCells l7)) (by repeat (first | with_reducible exact Pick.here | with_reducible apply Pick.there))) rfl Try.underlying126 Try.underlying126 info_frame rfl (by omega) (k := 0) rfl rfl rfl (Has.of (A := row b22 _ 110) (by (try dsimp only [List.set]); repeat (first | with_reducible exact List.mem_cons_self | with_reducible apply List.mem_cons_of_mem)) fun F hF => own_sliceAt F (own_exact (n := 1) (sz := 4) rfl (by omega) F hF)) (by simp [Value.oneCell']) (by omega) (by omega) fun v23 w2 h => hK _ _ (cS _ _ h (by (try dsimp only [List.set]); repeat (first | with_reducible exact List.mem_cons_self | with_reducible apply List.mem_cons_of_mem)) (by (try dsimp only [List.set]); repeat (first | with_reducible exact List.mem_cons_self | with_reducible apply List.mem_cons_of_mem))) ?_
        clear hs hK K
        have hs := h
        clear h
        try dsimp only [List.set] at hs
        obtain ⟨A23, c23, rfl, _, _⟩ := own_slice hs (i := 0) rfl
        try go_simp
        refine tree_one_yes (o := _) rfl rfl (fun K hK => ?_) (cS _ _ hs (by (try dsimp only [List.set]); repeat (first | with_reducible exact List.mem_cons_self | with_reducible apply List.mem_cons_of_mem)) (by (try dsimp only [List.set]); repeat (first | with_reducible exact List.mem_cons_self | with_reducible apply List.mem_cons_of_mem)))
        refine op_store (hs.pick (A := row b7 [.slice A7 done.length c7] 126) (by repeat (first | with_reducible exact Pick.here | with_reducible apply Pick.there))) rfl (b := b7) (i := 0) (v := .slice A23 (done.length + 1) c23) rfl rfl rfl (by kernel_rfl) (k := 0) rfl (by simp) fun w2 h => hK _ _ (cS _ _ h (by (try dsimp only [List.set]); repeat (first | with_reducible exact List.mem_cons_self | with_reducible apply List.mem_cons_of_mem)) (by (try dsimp only [List.set]); repeat (first | with_reducible exact List.mem_cons_self | with_reducible apply List.mem_cons_of_mem))) ?_
        clear hs hK K
        have hs := h
        clear h
        try dsimp only [List.set] at hs
        try go_simp
        refine tree_done ?_
        refine round_endB 0 (hs.pick (A := blk l _) (by repeat (first | with_reducible exact Pick.here | with_reducible apply Pick.there))) rfl fun w' h => ⟨rfl, ?_⟩
        dsimp only [List.set] at h
        have h1 := (h.pick (A := bods l7) (by repeat (first | with_reducible exact Pick.here | with_reducible apply Pick.there))).pick (A := own (.slice A20 b.length c20) 5 b.length 1 (u8s b)) (by repeat (first | with_reducible exact Pick.here | with_reducible apply Pick.there))
        have h2 := h1.sub (i := 0) rfl (B := bytesH (.slice A20 b.length c20) (rawFr epoch seq done.length b).body) fun F hF => own_sliceAt F hF
        dsimp only [List.set] at h2
        have h3 := (h2.bods_snoc.pick (A := own (.slice A23 (done.length + 1) c23) 110 (done.length + 1) 4 _) (by repeat (first | with_reducible exact Pick.here | with_reducible apply Pick.there))).pick (A := row b7 [.slice A23 (done.length + 1) c23] 126) (by repeat (first | with_reducible exact Pick.here | with_reducible apply Pick.there))
        have e1 : frsCells l7 ++ [.int .u32 (epoch : Nat), .int .u32 (((seq : Int) + (done.length : Int)) % 4294967296), .int .u8 0, .slice A20 b.length c20] = frsCells (l7 ++ [(rawFr epoch seq done.length b, .slice A20 b.length c20)]) := by
          rw [frsCells_snoc]; simp [frCells, rawFr]
        rw [e1] at h3
        have h4 := Sat.fvar_shut (fs := rawFrs epoch seq (done ++ [b])) (l := l7 ++ [(rawFr epoch seq done.length b, .slice A20 b.length c20)]) (by rw [rawFrs_snoc, List.map_append, hl7]; rfl) (by rw [rawFrs_length, List.length_append]; exact h3)
        unfold cutX
        exact h4.pack (by repeat (first | with_reducible exact Pack.refl | with_reducible exact Pack.nil | with_reducible refine Pack.cons (by repeat (first | with_reducible exact Pick.here | with_reducible apply Pick.there)) ?_ | with_reducible apply Pack.drop))
      · refine op_load rfl (ad := ⟨b7, 0, none⟩) rfl (by kernel_rfl) (hs.cell (by (try dsimp only [List.set]); repeat (first | with_reducible exact List.mem_cons_self | with_reducible apply List.mem_cons_of_mem)) rfl) (hK _ _ (cS _ _ hs (by (try dsimp only [List.set]); repeat (first | with_reducible exact List.mem_cons_self | with_reducible apply List.mem_cons_of_mem)) (by (try dsimp only [List.set]); repeat (first | with_reducible exact List.mem_cons_self | with_reducible apply List.mem_cons_of_mem))) ?_)
        clear hK K
        try go_simp
        repeat (first
          | (with_reducible refine tree_load (o := ⟨some 13, .load _ _, _, _, _, _⟩) rfl rfl rfl rfl rfl c3 ?_)
          | (with_reducible refine tree_load (o := ⟨some 14, .load _ _, _, _, _, _⟩) rfl rfl rfl rfl rfl c4 ?_)
          | (refine tree_take rfl (fun K hK => ?_); go_simp; (first | with_reducible refine hK _ ?_ | (rw [if_neg (by decide)]; with_reducible refine hK _ ?_)); clear hK K))
        refine tree_all (trees_cons_yes (o := _) rfl rfl (fun K hK => ?_) (cS _ _ hs (by (try dsimp only [List.set]); repeat (first | with_reducible exact List.mem_cons_self | with_reducible apply List.mem_cons_of_mem)) (by (try dsimp only [List.set]); repeat (first | with_reducible exact List.mem_cons_self | with_reducible apply List.mem_cons_of_mem))) (trees_cons_yes (o := _) rfl rfl (fun K hK => ?_) (cS _ _ hs (by (try dsimp only [List.set]); repeat (first | with_reducible exact List.mem_cons_self | with_reducible apply List.mem_cons_of_mem)) (by (try dsimp only [List.set]); repeat (first | with_reducible exact List.mem_cons_self | with_reducible apply List.mem_cons_of_mem))) trees_nil))
        · refine op_load rfl (ad := ⟨b7, 0, none⟩) rfl (by kernel_rfl) (hs.cell (by (try dsimp only [List.set]); repeat (first | with_reducible exact List.mem_cons_self | with_reducible apply List.mem_cons_of_mem)) rfl) (hK _ _ (cS _ _ hs (by (try dsimp only [List.set]); repeat (first | with_reducible exact List.mem_cons_self | with_reducible apply List.mem_cons_of_mem)) (by (try dsimp only [List.set]); repeat (first | with_reducible exact List.mem_cons_self | with_reducible apply List.mem_cons_of_mem))) ?_)
          clear hK K
          try go_simp
          refine tree_one_yes (o := _) rfl rfl (fun K hK => ?_) (cS _ _ hs (by (try dsimp only [List.set]); repeat (first | with_reducible exact List.mem_cons_self | with_reducible apply List.mem_cons_of_mem)) (by (try dsimp only [List.set]); repeat (first | with_reducible exact List.mem_cons_self | with_reducible apply List.mem_cons_of_mem)))
          refine op_lit_agg1 hs rfl Try.underlying126 info_frame [.int .u32 (epoch : Nat), .int .u32 (((seq : Int) + (done.length : Int)) % 4294967296), .int .u8 0, .slice A20 b.length c20] rfl rfl (by omega) (by omega) fun b22 w2 h => hK _ _ (cS _ _ h (by (try dsimp only [List.set]); repeat (first | with_reducible exact List.mem_cons_self | with_reducible apply List.mem_cons_of_mem)) (by (try dsimp only [List.set]); repeat (first | with_reducible exact List.mem_cons_self | with_reducible apply List.mem_cons_of_mem))) ?_
          clear hs hK K
          have hs := h
          clear h
          try dsimp only [List.set] at hs
          try go_simp
          refine tree_one_yes (o := _) rfl rfl (fun K hK => ?_) (cS _ _ hs (by (try dsimp only [List.set]); repeat (first | with_reducible exact List.mem_cons_self | with_reducible apply List.mem_cons_of_mem)) (by (try dsimp only [List.set]); repeat (first | with_reducible exact List.mem_cons_self | with_reducible apply List.mem_cons_of_mem)))
          refine op_append (hs.pick (A := own (.slice A7 done.length c7) 110 done.length 4 (frsCells l7)) (by repeat (first | with_reducible exact Pick.here | with_reducible apply Pick.there))) rfl Try.underlying126 Try.underlying126 info_frame rfl (by omega) (k := 0) rfl rfl rfl (Has.of (A := row b22 _ 110) (by (try dsimp only [List.set]); repeat (first | with_reducible exact List.mem_cons_self | with_reducible apply List.mem_cons_of_mem)) fun F hF => own_sliceAt F (own_exact (n := 1) (sz := 4) rfl (by omega) F hF)) (by simp [Value.oneCell']) (by omega) (by omega) fun v23 w2 h => hK _ _ (cS _ _ h (by (try dsimp only [List.set]); repeat (first | with_reducible exact List.mem_cons_self | with_reducible apply List.mem_cons_of_mem)) (by (try dsimp only [List.set]); repeat (first | with_reducible exact List.mem_cons_self | with_reducible apply List.mem_cons_of_mem))) ?_
          clear hs hK K
          have hs := h
          clear h
          try dsimp only [List.set] at hs
          obtain ⟨A23, c23, rfl, _, _⟩ := own_slice hs (i := 0) rfl
          try go_simp
          refine tree_one_yes (o := _) rfl rfl (fun K hK => ?_) (cS _ _ hs (by (try dsimp only [List.set]); repeat (first | with_reducible exact List.mem_cons_self | with_reducible apply List.mem_cons_of_mem)) (by (try dsimp only [List.set]); repeat (first | with_reducible exact List.mem_cons_self | with_reducible apply List.mem_cons_of_mem)))
          refine op_store (hs.pick (A := row b7 [.slice A7 done.length c7] 126) (by repeat (first | with_reducible exact Pick.here | with_reducible apply Pick.there))) rfl (b := b7) (i := 0) (v := .slice A23 (done.length + 1) c23) rfl rfl rfl (by kernel_rfl) (k := 0) rfl (by simp) fun w2 h => hK _ _ (cS _ _ h (by (try dsimp only [List.set]); repeat (first | with_reducible exact List.mem_cons_self | with_reducible apply List.mem_cons_of_mem)) (by (try dsimp only [List.set]); repeat (first | with_reducible exact List.mem_cons_self | with_reducible apply List.mem_cons_of_mem))) ?_
          clear hs hK K
          have hs := h
          clear h
          try dsimp only [List.set] at hs
          try go_simp
          refine tree_done ?_
          refine round_endB 0 (hs.pick (A := blk l _) (by repeat (first | with_reducible exact Pick.here | with_reducible apply Pick.there))) rfl fun w' h => ⟨rfl, ?_⟩
          dsimp only [List.set] at h
          have h1 := (h.pick (A := bods l7) (by repeat (first | with_reducible exact Pick.here | with_reducible apply Pick.there))).pick (A := own (.slice A20 b.length c20) 5 b.length 1 (u8s b)) (by repeat (first | with_reducible exact Pick.here | with_reducible apply Pick.there))
          have h2 := h1.sub (i := 0) rfl (B := bytesH (.slice A20 b.length c20) (rawFr epoch seq done.length b).body) fun F hF => own_sliceAt F hF
          dsimp only [List.set] at h2
          have h3 := (h2.bods_snoc.pick (A := own (.slice A23 (done.length + 1) c23) 110 (done.length + 1) 4 _) (by repeat (first | with_reducible exact Pick.here | with_reducible apply Pick.there))).pick (A := row b7 [.slice A23 (done.length + 1) c23] 126) (by repeat (first | with_reducible exact Pick.here | with_reducible apply Pick.there))
          have e1 : frsCells l7 ++ [.int .u32 (epoch : Nat), .int .u32 (((seq : Int) + (done.length : Int)) % 4294967296), .int .u8 0, .slice A20 b.length c20] = frsCells (l7 ++ [(rawFr epoch seq done.length b, .slice A20 b.length c20)]) := by
            rw [frsCells_snoc]; simp [frCells, rawFr]
          rw [e1] at h3
          have h4 := Sat.fvar_shut (fs := rawFrs epoch seq (done ++ [b])) (l := l7 ++ [(rawFr epoch seq done.length b, .slice A20 b.length c20)]) (by rw [rawFrs_snoc, List.map_append, hl7]; rfl) (by rw [rawFrs_length, List.length_append]; exact h3)
          unfold cutX
          exact h4.pack (by repeat (first | with_reducible exact Pack.refl | with_reducible exact Pack.nil | with_reducible refine Pack.cons (by repeat (first | with_reducible exact Pick.here | with_reducible apply Pick.there)) ?_ | with_reducible apply Pack.drop))
        · refine op_lit_agg1 hs rfl Try.underlying126 info_frame [.int .u32 (epoch : Nat), .int .u32 (((seq : Int) + (done.length : Int)) % 4294967296), .int .u8 0, .slice A20 b.length c20] rfl rfl (by omega) (by omega) fun b22 w2 h => hK _ _ (cS _ _ h (by (try dsimp only [List.set]); repeat (first | with_reducible exact List.mem_cons_self | with_reducible apply List.mem_cons_of_mem)) (by (try dsimp only [List.set]); repeat (first | with_reducible exact List.mem_cons_self | with_reducible apply List.mem_cons_of_mem))) ?_
          clear hs hK K
          have hs := h
          clear h
          try dsimp only [List.set] at hs
          try go_simp
          refine tree_one_yes (o := _) rfl rfl (fun K hK => ?_) (cS _ _ hs (by (try dsimp only [List.set]); repeat (first | with_reducible exact List.mem_cons_self | with_reducible apply List.mem_cons_of_mem)) (by (try dsimp only [List.set]); repeat (first | with_reducible exact List.mem_cons_self | with_reducible apply List.mem_cons_of_mem)))
          refine op_load rfl (ad := ⟨b7, 0, none⟩) rfl (by kernel_rfl) (hs.cell (by (try dsimp only [List.set]); repeat (first | with_reducible exact List.mem_cons_self | with_reducible apply List.mem_cons_of_mem)) rfl) (hK _ _ (cS _ _ hs (by (try dsimp only [List.set]); repeat (first | with_reducible exact List.mem_cons_self | with_reducible apply List.mem_cons_of_mem)) (by (try dsimp only [List.set]); repeat (first | with_reducible exact List.mem_cons_self | with_reducible apply List.mem_cons_of_mem))) ?_)
          clear hK K
          try go_simp
          refine tree_one_yes (o := _) rfl rfl (fun K hK => ?_) (cS _ _ hs (by (try dsimp only [List.set]); repeat (first | with_reducible exact List.mem_cons_self | with_reducible apply List.mem_cons_of_mem)) (by (try dsimp only [List.set]); repeat (first | with_reducible exact List.mem_cons_self | with_reducible apply List.mem_cons_of_mem)))
          refine op_append (hs.pick (A := own (.slice A7 done.length c7) 110 done.length 4 (frsCells l7)) (by repeat (first | with_reducible exact Pick.here | with_reducible apply Pick.there))) rfl Try.underlying126 Try.underlying126 info_frame rfl (by omega) (k := 0) rfl rfl rfl (Has.of (A := row b22 _ 110) (by (try dsimp only [List.set]); repeat (first | with_reducible exact List.mem_cons_self | with_reducible apply List.mem_cons_of_mem)) fun F hF => own_sliceAt F (own_exact (n := 1) (sz := 4) rfl (by omega) F hF)) (by simp [Value.oneCell']) (by omega) (by omega) fun v23 w2 h => hK _ _ (cS _ _ h (by (try dsimp only [List.set]); repeat (first | with_reducible exact List.mem_cons_self | with_reducible apply List.mem_cons_of_mem)) (by (try dsimp only [List.set]); repeat (first | with_reducible exact List.mem_cons_self | with_reducible apply List.mem_cons_of_mem))) ?_
          clear hs hK K
          have hs := h
          clear h
          try dsimp only [List.set] at hs
          obtain ⟨A23, c23, rfl, _, _⟩ := own_slice hs (i := 0) rfl
          try go_simp
          refine tree_one_yes (o := _) rfl rfl (fun K hK => ?_) (cS _ _ hs (by (try dsimp only [List.set]); repeat (first | with_reducible exact List.mem_cons_self | with_reducible apply List.mem_cons_of_mem)) (by (try dsimp only [List.set]); repeat (first | with_reducible exact List.mem_cons_self | with_reducible apply List.mem_cons_of_mem)))
          refine op_store (hs.pick (A := row b7 [.slice A7 done.length c7] 126) (by repeat (first | with_reducible exact Pick.here | with_reducible apply Pick.there))) rfl (b := b7) (i := 0) (v := .slice A23 (done.length + 1) c23) rfl rfl rfl (by kernel_rfl) (k := 0) rfl (by simp) fun w2 h => hK _ _ (cS _ _ h (by (try dsimp only [List.set]); repeat (first | with_reducible exact List.mem_cons_self | with_reducible apply List.mem_cons_of_mem)) (by (try dsimp only [List.set]); repeat (first | with_reducible exact List.mem_cons_self | with_reducible apply List.mem_cons_of_mem))) ?_
          clear hs hK K
          have hs := h
          clear h
          try dsimp only [List.set] at hs
          try go_simp
          refine tree_done ?_
          refine round_endB 0 (hs.pick (A := blk l _) (by repeat (first | with_reducible exact Pick.here | with_reducible apply Pick.there))) rfl fun w' h => ⟨rfl, ?_⟩
          dsimp only [List.set] at h
          have h1 := (h.pick (A := bods l7) (by repeat (first | with_reducible exact Pick.here | with_reducible apply Pick.there))).pick (A := own (.slice A20 b.length c20) 5 b.length 1 (u8s b)) (by repeat (first | with_reducible exact Pick.here | with_reducible apply Pick.there))
          have h2 := h1.sub (i := 0) rfl (B := bytesH (.slice A20 b.length c20) (rawFr epoch seq done.length b).body) fun F hF => own_sliceAt F hF
          dsimp only [List.set] at h2
          have h3 := (h2.bods_snoc.pick (A := own (.slice A23 (done.length + 1) c23) 110 (done.length + 1) 4 _) (by repeat (first | with_reducible exact Pick.here | with_reducible apply Pick.there))).pick (A := row b7 [.slice A23 (done.length + 1) c23] 126) (by repeat (first | with_reducible exact Pick.here | with_reducible apply Pick.there))
          have e1 : frsCells l7 ++ [.int .u32 (epoch : Nat), .int .u32 (((seq : Int) + (done.length : Int)) % 4294967296), .int .u8 0, .slice A20 b.length c20] = frsCells (l7 ++ [(rawFr epoch seq done.length b, .slice A20 b.length c20)]) := by
            rw [frsCells_snoc]; simp [frCells, rawFr]
          rw [e1] at h3
          have h4 := Sat.fvar_shut (fs := rawFrs epoch seq (done ++ [b])) (l := l7 ++ [(rawFr epoch seq done.length b, .slice A20 b.length c20)]) (by rw [rawFrs_snoc, List.map_append, hl7]; rfl) (by rw [rawFrs_length, List.length_append]; exact h3)
          unfold cutX
          exact h4.pack (by repeat (first | with_reducible exact Pack.refl | with_reducible exact Pack.nil | with_reducible refine Pack.cons (by repeat (first | with_reducible exact Pick.here | with_reducible apply Pick.there)) ?_ | with_reducible apply Pack.drop))
  rintro e w3 ⟨he', v', hs⟩
  refine ⟨he', _, hs.tail, ?_⟩
  intro w4 hs4
  clear hs
  obtain ⟨v7, l7, hl7, hs⟩ := (hs4.pick (A := fvar b7 (rawFrs epoch seq (cuts rec))) (by repeat (first | with_reducible exact Pick.here | with_reducible apply Pick.there))).fvar_open
  clear hs4
  obtain ⟨n, hn⟩ : ∃ n, (cuts rec).length = n + 1 := ⟨(cuts rec).length - 1, by have := List.length_pos_iff.2 (cuts_ne rec); omega⟩
  have hlen : (rawFrs epoch seq (cuts rec)).length = n + 1 := by rw [rawFrs_length]; exact hn
  have hll : l7.length = n + 1 := by rw [← hlen, ← hl7]; simp
  have hbig : n + 1 ≤ 2814749767025 := by have := cuts_number _ rec (Nat.le_refl _); omega
  have hfin : Box (cutF epoch seq rec = ((rawFrs epoch seq (cuts rec)).modify 0 (·.or 1)).modify n (·.or 2)) := ⟨by unfold cutF flagged; rw [hlen]; rfl⟩
  rw [hlen] at hs
  obtain ⟨bo, co, sp, rfl, _, _, _, _⟩ := hs.ownOpen (i := 1) rfl (by omega)
  have h0l : 0 < l7.length := by omega
  have hnl : n < l7.length := by omega
  have HLL := Box.mk hll
  clear hll
  have hc1 := own_cell hs m1 (frsCells_get l7 0 h0l 2 (by omega))
  obtain ⟨l8, hl8⟩ : ∃ l8, l8 = l7.modify 0 fun y => (y.1.or 1, y.2) := ⟨_, rfl⟩
  have hl8n : n < l8.length := by rw [hl8]; simpa using hnl
  obtain ⟨l9, hl9⟩ : ∃ l9, l9 = l8.modify n fun y => (y.1.or 2, y.2) := ⟨_, rfl⟩
  have HZ1 : Box ((frsCells l7).set 2 (.int .u8 (bits .or .u8 (l7[0].1.flag.toNat : Int) 1)) = frsCells l8) := ⟨by
    rw [hl8, show bits .or .u8 (l7[0].1.flag.toNat : Int) 1 = (((l7[0].1.flag ||| 1).toNat : Nat) : Int) from or_u8 l7[0].1.flag 1]
    exact frsCells_set l7 0 h0l 1⟩
  have HZ2 : Box ((frsCells l8).set (n * 4 + 2) (.int .u8 (bits .or .u8 (l8[n].1.flag.toNat : Int) 2)) = frsCells l9) := ⟨by
    rw [hl9, show bits .or .u8 (l8[n].1.flag.toNat : Int) 2 = (((l8[n].1.flag ||| 2).toNat : Nat) : Int) from or_u8 l8[n].1.flag 2]
    exact frsCells_set l8 n hl8n 2⟩
  have HL8 : Box (l8.length = n + 1) := ⟨by rw [hl8, ← HLL.out]; simp⟩
  have HB : Box (bods l7 = bods l9) := ⟨by rw [hl9, bods_modify, hl8, bods_modify]⟩
  have HM : Box (l9.map (·.1) = cutF epoch seq rec) := ⟨by rw [hl9, map_modify_fst, hl8, map_modify_fst, hl7, hfin.out]⟩
  clear hl8 hl9 hfin
  go_wp2_with (first
    | (guard_target = wpList _ _ _ (⟨some 24, .load _ _, _, _, _, _⟩ :: _) _ _; refine wpl (o := ⟨some 24, .load _ _, _, _, _, _⟩) rfl fun K hK => op_load rfl (ad := ⟨b7, 0, none⟩) rfl (by kernel_rfl) (hs.cell m0 rfl) (hK _ _ ?_); clear hK K)
    | (guard_target = wpList _ _ _ (⟨some 27, .load _ _, _, _, _, _⟩ :: _) _ _; refine wpl (o := ⟨some 27, .load _ _, _, _, _, _⟩) rfl fun K hK => op_load rfl (ad := ⟨bo, 2, none⟩) rfl (by kernel_rfl) hc1 (hK _ _ ?_); clear hK K)
    | (guard_target = wpList _ _ _ (⟨none, .store _ (.tmp 30) _, _, _, _, _⟩ :: _) _ _; refine wpl (o := ⟨none, .store _ (.tmp 30) _, _, _, _, _⟩) rfl fun K hK => ?_; go_must (refine op_store_own1 hs rfl (b := bo) (i := 2) 1 rfl (by omega) rfl (.int .u8 (bits .or .u8 (l7[0].1.flag.toNat : Int) 1)) rfl rfl (by kernel_rfl) (by rw [frsCells_length, HLL.out]; omega) fun w5 h => hK _ _ ?_); clear hs hK K; have hs := h; clear h; dsimp only [List.set] at hs; rw [HZ1.out] at hs
       have hc2 := own_cell hs m1 (frsCells_get l8 n hl8n 2 (by omega)))
    | (guard_target = wpList _ _ _ (⟨some 31, .load _ _, _, _, _, _⟩ :: _) _ _; refine wpl (o := ⟨some 31, .load _ _, _, _, _, _⟩) rfl fun K hK => op_load rfl (ad := ⟨b7, 0, none⟩) rfl (by kernel_rfl) (hs.cell m0 rfl) (hK _ _ ?_); clear hK K)
    | (guard_target = wpList _ _ _ (⟨some 32, .load _ _, _, _, _, _⟩ :: _) _ _; refine wpl (o := ⟨some 32, .load _ _, _, _, _, _⟩) rfl fun K hK => op_load rfl (ad := ⟨b7, 0, none⟩) rfl (by kernel_rfl) (hs.cell m0 rfl) (hK _ _ ?_); clear hK K)
    | (guard_target = wpList _ _ _ (⟨some 37, .load _ _, _, _, _, _⟩ :: _) _ _; refine wpl (o := ⟨some 37, .load _ _, _, _, _, _⟩) rfl fun K hK => op_load rfl (ad := ⟨bo, n * 4 + 2, none⟩) rfl (by kernel_rfl) hc2 (hK _ _ ?_); clear hK K)
    | (guard_target = wpList _ _ _ (⟨none, .store _ (.tmp 40) _, _, _, _, _⟩ :: _) _ _; refine wpl (o := ⟨none, .store _ (.tmp 40) _, _, _, _, _⟩) rfl fun K hK => ?_; go_must (refine op_store_own1 hs rfl (b := bo) (i := n * 4 + 2) 1 rfl (by omega) rfl (.int .u8 (bits .or .u8 (l8[n].1.flag.toNat : Int) 2)) rfl rfl (by kernel_rfl) (by rw [frsCells_length, HL8.out]; omega) fun w5 h => hK _ _ ?_); clear hs hK K; have hs := h; clear h; dsimp only [List.set] at hs; rw [HZ2.out, HB.out] at hs)
    | (guard_target = wpList _ _ _ (⟨some 41, .load _ _, _, _, _, _⟩ :: _) _ _; refine wpl (o := ⟨some 41, .load _ _, _, _, _, _⟩) rfl fun K hK => op_load rfl (ad := ⟨b7, 0, none⟩) rfl (by kernel_rfl) (hs.cell m0 rfl) (hK _ _ ?_); clear hK K))
  try simp only [Exit.inBlock, Exit.then]
  have hD := hs.get (b := D) (o := .deferred (some [])) (by (try dsimp only [List.set]); repeat (first | with_reducible exact List.mem_cons_self | with_reducible apply List.mem_cons_of_mem))
  refine ⟨by simp, .inl ⟨_, _, rfl, run_takeDeferred hD, ?_⟩⟩
  have hp := (hs.pick (A := blk D (.deferred (some []))) (by repeat (first | with_reducible exact Pick.here | with_reducible apply Pick.there))).put (i := 0) rfl (.deferred none)
  dsimp only [List.set] at hp
  have h9 : (cutF epoch seq rec).length = n + 1 := by rw [cutF_length]; exact hn
  refine ⟨_, results_tmp rfl _ _ _, .slice (some ⟨bo, 0, none⟩) (n + 1) co, l9, rfl, HM.out, ?_⟩
  rw [h9]
  exact hp.pack (by repeat (first | with_reducible exact Pack.refl | with_reducible exact Pack.nil | with_reducible refine Pack.cons (by repeat (first | with_reducible exact Pick.here | with_reducible apply Pick.there)) ?_ | with_reducible apply Pack.drop))
end Go.Proofs.Ytimknlabhhopcaa
