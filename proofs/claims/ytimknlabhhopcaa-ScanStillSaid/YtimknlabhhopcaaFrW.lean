/- The contracts of frame.Pack, bytes.Clone and bytes.Equal. -/
import Derived.Test.YtimknlabhhopcaaFrP
import Derived.Test.YtimknlabhhopcaaNumW
import Derived.Test.YtimknlabhhopcaaCrc
set_option linter.unusedVariables false
set_option linter.unusedSimpArgs false
namespace Go.Proofs.Ytimknlabhhopcaa
open Go.RowKit
section
variable {P : Program} {Q : Exit → Act → World → Prop} {a : Act} {W w : World} {o : Oper} {K : Act → World → Prop} {L : List HP}
theorem op_copy_str (hs : Sat W w L) {t t' e : TypeId} {d x : Operand} (ho : o.op = .call { callee := .builtin .copy, args := #[d, x], argTypes := #[t, t'] })
    (ht : P.underlying t = some (.slice e)) (hsz : (P.info? e).map (·.size) = some 1) {b i n cap : Nat} (hd : a.eval d = .slice (some ⟨b, i, none⟩) n cap)
    {k : Nat} {l : List UInt8} {T : TypeId} (hk : L[k]? = some (row b (u8s l) T)) (hil : i + n ≤ l.length) {m : List UInt8} (hy : a.eval x = .string ⟨m.toArray⟩) (hm : m.length ≤ n)
    (h : ∀ w', Sat W w' (L.set k (row b (u8s (l.take i ++ m ++ l.drop (i + m.length))) T)) → K (a.put o.dst (.int .i64 m.length)) w') : o.wp P a w K Q := by
  have hmin : Nat.min m.length n = m.length := Nat.min_eq_left hm
  refine op_copy hs ho ht hsz hd hk (by simpa using hil) hy (m := m.length) rfl (xs := u8s m) ?_ (by simp [hmin]) (u8s_one m) (fun w' hw => ?_)
  · rw [hmin]
    have := Lib.run_firstCells_string (P := P) w 1 ⟨m.toArray⟩
    simpa [Lib.strCells, u8s, ByteArray.size] using this
  · have e : (u8s l).take i ++ u8s m ++ (u8s l).drop (i + (u8s m).length) = u8s (l.take i ++ m ++ l.drop (i + m.length)) := by simp [u8s, List.map_take, List.map_drop]
    rw [e] at hw
    have := h w' hw
    simpa using this
theorem op_copy_u8 (hs : Sat W w L) {t t' e : TypeId} {d x : Operand} (ho : o.op = .call { callee := .builtin .copy, args := #[d, x], argTypes := #[t, t'] })
    (ht : P.underlying t = some (.slice e)) (hsz : (P.info? e).map (·.size) = some 1) {b i n cap : Nat} (hd : a.eval d = .slice (some ⟨b, i, none⟩) n cap)
    {k : Nat} {l : List UInt8} {T : TypeId} (hk : L[k]? = some (row b (u8s l) T)) (hil : i + n ≤ l.length) {y : Value} {m : List UInt8} (hy : a.eval x = y) (hx : Has L (bytesAt y m)) (hm : m.length ≤ n)
    (h : ∀ w', Sat W w' (L.set k (row b (u8s (l.take i ++ m ++ l.drop (i + m.length))) T)) → K (a.put o.dst (.int .i64 m.length)) w') : o.wp P a w K Q := by
  refine op_copy_bytes hs ho ht hsz hd hk (by simpa using hil) hy hx hm (fun w' hw => ?_)
  have e : (u8s l).take i ++ u8s m ++ (u8s l).drop (i + m.length) = u8s (l.take i ++ m ++ l.drop (i + m.length)) := by simp [u8s, List.map_take, List.map_drop]
  rw [e] at hw
  exact h w' hw
end
theorem u8_len (n : Nat) (h : n < 256) : IntKind.u8.wrap (n : Int) = (((UInt8.ofNat n).toNat : Nat) : Int) := by
  have e : (UInt8.ofNat n).toNat = n % 256 := UInt8.toNat_ofNat'
  rw [w8 (by omega) (by omega), e]; omega
theorem sz_u8 : (Try.prog.info? 5).map (·.size) = some 1 := by kernel_rfl
def frCells (f : Fr) (vb : Value) : List Value := [.int .u32 (f.epoch : Nat), .int .u32 (f.seq : Nat), .int .u8 f.flag.toNat, vb]
def fpackPost (f : Fr) (W : World) (L : List HP) (e : Ending) (w' : World) : Prop := ∃ v, e = .returned (.tuple #[v, .int .i64 0]) ∧ Sat W w' (own v 5 64 1 (u8s f.pack) :: L)
def rngS (b : Nat) (cs : List Value) (w : World) : Prop := w.rangeAt b 0 cs
set_option maxRecDepth 100000 in
set_option maxHeartbeats 2000000 in
theorem fpack_spec (W w : World) (L : List HP) (hs : Sat W w L) (f : Fr) (ok : f.Ok) (vb : Value) (hb : Has L (bytesAt vb f.body)) (h50 : f.body.length ≤ 50) :
    Calls Try.prog 56 #[.agg #[.int .u32 (f.epoch : Nat), .int .u32 (f.seq : Nat), .int .u8 f.flag.toNat, vb]] w (fpackPost f W L) := by
  obtain ⟨_, Ab, cb, rfl, hb1, hb2, _⟩ := hs.bytes hb
  have h50I : ¬ (50 : Int) < (f.body.length : Int) := by omega
  have hcat : ¬ 9223372036854775807 < 8 := by omega
  go_enter Try.func56, Try.ntmps56
  go_wp2_with (first
    | (guard_target = wpList _ _ _ (⟨some 1, .box _ _, _, _, _, _⟩ :: _) _ _; refine wpl (o := ⟨some 1, .box _ _, _, _, _, _⟩) rfl fun K hK => ?_; go_must (refine op_box hs rfl _ rfl (frCells f (.slice Ab f.body.length cb)) rfl fun b1 w1 h => hK _ _ ?_); clear hs hK K; have hs := h; clear h; try dsimp only [List.set] at hs)
    | (guard_target = wpList _ _ _ (⟨some 6, .load _ _, _, _, _, _⟩ :: _) _ _; refine wpl (o := ⟨some 6, .load _ _, _, _, _, _⟩) rfl fun K hK => op_load rfl (ad := ⟨b1, 3, none⟩) rfl (by kernel_rfl) (hs.cell m0 rfl) (hK _ _ ?_); clear hK K)
    | (guard_target = wpList _ _ _ (⟨some 9, .makeSlice _ _ _, _, _, _, _⟩ :: _) _ _; refine wpl (o := ⟨some 9, .makeSlice _ _ _, _, _, _, _⟩) rfl fun K hK => ?_; go_must (refine op_make hs rfl Try.underlying36 rfl rfl info_u8 rfl (n := 60) (c := 64) (by omega) (by omega) (by omega) fun b9 w1 h => hK _ _ ?_); clear hs hK K; have hs := h; clear h; try dsimp only [List.set] at hs))
  have e0 : List.replicate 64 (Value.int .u8 0) = u8s (List.replicate 64 0) := by simp [u8s]
  rw [e0] at hs
  clear e0
  have cS : ∀ w M, Sat W w M → row b1 (frCells f (.slice Ab f.body.length cb)) 110 ∈ M → rngS b1 (frCells f (.slice Ab f.body.length cb)) w := fun w M h hm => range_whole h hm
  have c0 : ∀ w, rngS b1 (frCells f (.slice Ab f.body.length cb)) w → w.cell? ⟨b1, 0, none⟩ = some (.int .u32 (f.epoch : Nat)) := fun w h => h 0 _ rfl
  have c1 : ∀ w, rngS b1 (frCells f (.slice Ab f.body.length cb)) w → w.cell? ⟨b1, 1, none⟩ = some (.int .u32 (f.seq : Nat)) := fun w h => h 1 _ rfl
  have c2 : ∀ w, rngS b1 (frCells f (.slice Ab f.body.length cb)) w → w.cell? ⟨b1, 2, none⟩ = some (.int .u8 f.flag.toNat) := fun w h => h 2 _ rfl
  have c3 : ∀ w, rngS b1 (frCells f (.slice Ab f.body.length cb)) w → w.cell? ⟨b1, 3, none⟩ = some (.slice Ab f.body.length cb) := fun w h => h 3 _ rfl
  have hS0 := cS _ _ hs.drew (by (try dsimp only [List.set]); repeat (first | with_reducible exact List.mem_cons_self | with_reducible apply List.mem_cons_of_mem))
  refine wp_region_tree (rngS b1 (frCells f (.slice Ab f.body.length cb))) (.take 0 (.take 1 (.take 2 (.take 4 (.take 5 (.all [(3, .all [(6, .take 7 (.all [(8, DTree.done)]))])])))))) (by kernel_rfl) (by kernel_rfl) (by kernel_rfl) (fun _ _ d _ _ h => by cases d <;> exact h) hS0 ?_
  have hs' := hs.drew
  clear hs
  have hs := hs'
  clear hs'
  have hq := fun p : Prop => class_const hS0 p
  clear hS0
  repeat (first
    | (with_reducible refine tree_load (o := ⟨some 12, .load _ _, _, _, _, _⟩) rfl rfl rfl rfl rfl c0 ?_)
    | (with_reducible refine tree_load (o := ⟨some 15, .load _ _, _, _, _, _⟩) rfl rfl rfl rfl rfl c1 ?_)
    | (refine tree_take rfl (fun K hK => ?_); go_simp; (first | with_reducible refine hK _ ?_ | (rw [if_neg (by decide)]; with_reducible refine hK _ ?_)); clear hK K))
  refine tree_one_yes (o := _) rfl rfl (fun K hK => ?_) (cS _ _ hs (by (try dsimp only [List.set]); repeat (first | with_reducible exact List.mem_cons_self | with_reducible apply List.mem_cons_of_mem)))
  try go_simp
  go_at_call 72
  refine (num_spec W _ _ hs f.epoch ok.e).mono ?_
  clear hs
  rintro e w5 ⟨rfl, hs⟩
  try go_simp
  refine hK _ _ (cS _ _ hs (by (try dsimp only [List.set]); repeat (first | with_reducible exact List.mem_cons_self | with_reducible apply List.mem_cons_of_mem))) ?_
  clear hK K
  refine tree_one_yes (o := _) rfl rfl (fun K hK => ?_) (cS _ _ hs (by (try dsimp only [List.set]); repeat (first | with_reducible exact List.mem_cons_self | with_reducible apply List.mem_cons_of_mem)))
  try go_simp
  go_at_call 72
  refine (num_spec W _ _ hs f.seq ok.s).mono ?_
  clear hs
  rintro e w5 ⟨rfl, hs⟩
  try go_simp
  refine hK _ _ (cS _ _ hs (by (try dsimp only [List.set]); repeat (first | with_reducible exact List.mem_cons_self | with_reducible apply List.mem_cons_of_mem))) ?_
  clear hK K
  repeat (first
    | (with_reducible refine tree_load (o := ⟨some 12, .load _ _, _, _, _, _⟩) rfl rfl rfl rfl rfl c0 ?_)
    | (with_reducible refine tree_load (o := ⟨some 15, .load _ _, _, _, _, _⟩) rfl rfl rfl rfl rfl c1 ?_)
    | (refine tree_take rfl (fun K hK => ?_); go_simp; (first | with_reducible refine hK _ ?_ | (rw [if_neg (by decide)]; with_reducible refine hK _ ?_)); clear hK K))
  refine tree_one_yes (o := _) rfl rfl (fun K hK => ?_) (cS _ _ hs (by (try dsimp only [List.set]); repeat (first | with_reducible exact List.mem_cons_self | with_reducible apply List.mem_cons_of_mem)))
  refine op_copy_str hs rfl Try.underlying36 sz_u8 (b := b9) (i := 0) (n := 60) rfl (k := 0) rfl (by simp) (congrArg Value.string (str_app (be 4 f.epoch) (be 4 f.seq))) (by simp) fun w1 h => hK _ _ (cS _ _ h (by (try dsimp only [List.set]); repeat (first | with_reducible exact List.mem_cons_self | with_reducible apply List.mem_cons_of_mem))) ?_
  clear hs hK K
  have hs := h
  clear h
  try dsimp only [List.set] at hs
  try go_simp
  refine tree_done ?_
  have e1 := Fr.lay1 (be 4 f.epoch ++ be 4 f.seq) (by simp)
  rw [e1] at hs
  clear e1 hq
  go_wp2_with fail
  have hS0 := cS _ _ hs.drew (by (try dsimp only [List.set]); repeat (first | with_reducible exact List.mem_cons_self | with_reducible apply List.mem_cons_of_mem))
  refine wp_region_tree (rngS b1 (frCells f (.slice Ab f.body.length cb))) (.take 0 (.take 1 (.take 2 (.take 3 (.take 4 (.take 5 (.take 6 (.take 7 (.take 8 (.all [(9, .take 10 (.all [(11, DTree.done)]))])))))))))) (by kernel_rfl) (by kernel_rfl) (by kernel_rfl) (fun _ _ d _ _ h => by cases d <;> exact h) hS0 ?_
  have hs' := hs.drew
  clear hs
  have hs := hs'
  clear hs'
  have hq := fun p : Prop => class_const hS0 p
  clear hS0
  repeat (first
    | (with_reducible refine tree_load (o := ⟨some 22, .load _ _, _, _, _, _⟩) rfl rfl rfl rfl rfl c2 ?_)
    | (with_reducible refine tree_load (o := ⟨some 24, .load _ _, _, _, _, _⟩) rfl rfl rfl rfl rfl c3 ?_)
    | (refine tree_take rfl (fun K hK => ?_); go_simp; (first | with_reducible refine hK _ ?_ | (rw [if_neg (by decide)]; with_reducible refine hK _ ?_)); clear hK K))
  refine tree_one_yes (o := _) rfl rfl (fun K hK => ?_) (cS _ _ hs (by (try dsimp only [List.set]); repeat (first | with_reducible exact List.mem_cons_self | with_reducible apply List.mem_cons_of_mem)))
  refine op_store hs rfl (b := b9) (i := 8) (v := .int .u8 f.flag.toNat) rfl rfl rfl (by kernel_rfl) (k := 0) rfl (by simp) fun w2 h => hK _ _ (cS _ _ h (by (try dsimp only [List.set]); repeat (first | with_reducible exact List.mem_cons_self | with_reducible apply List.mem_cons_of_mem))) ?_
  clear hs hK K
  have hs := h
  clear h
  try dsimp only [List.set] at hs
  try go_simp
  repeat (first
    | (with_reducible refine tree_load (o := ⟨some 22, .load _ _, _, _, _, _⟩) rfl rfl rfl rfl rfl c2 ?_)
    | (with_reducible refine tree_load (o := ⟨some 24, .load _ _, _, _, _, _⟩) rfl rfl rfl rfl rfl c3 ?_)
    | (refine tree_take rfl (fun K hK => ?_); go_simp; (first | with_reducible refine hK _ ?_ | (rw [if_neg (by decide)]; with_reducible refine hK _ ?_)); clear hK K))
  refine tree_one_yes (o := _) rfl rfl (fun K hK => ?_) (cS _ _ hs (by (try dsimp only [List.set]); repeat (first | with_reducible exact List.mem_cons_self | with_reducible apply List.mem_cons_of_mem)))
  refine op_store hs rfl (b := b9) (i := 9) (v := .int .u8 (IntKind.u8.wrap (f.body.length : Int))) rfl rfl rfl (by kernel_rfl) (k := 0) rfl (by simp) fun w2 h => hK _ _ (cS _ _ h (by (try dsimp only [List.set]); repeat (first | with_reducible exact List.mem_cons_self | with_reducible apply List.mem_cons_of_mem))) ?_
  clear hs hK K
  have hs := h
  clear h
  try dsimp only [List.set] at hs
  try go_simp
  refine tree_done ?_
  rw [u8_len f.body.length (by omega), u8s_set, u8s_set, Fr.lay2 _ _ (by simp), Fr.lay3 _ _ _ (by simp)] at hs
  clear hq
  go_wp2_with fail
  have hS0 := cS _ _ hs.drew (by (try dsimp only [List.set]); repeat (first | with_reducible exact List.mem_cons_self | with_reducible apply List.mem_cons_of_mem))
  refine wp_region_tree (rngS b1 (frCells f (.slice Ab f.body.length cb))) (.take 0 (.take 1 (.take 2 (.take 3 (.all [(4, DTree.done)]))))) (by kernel_rfl) (by kernel_rfl) (by kernel_rfl) (fun _ _ d _ _ h => by cases d <;> exact h) hS0 ?_
  have hs' := hs.drew
  clear hs
  have hs := hs'
  clear hs'
  have hq := fun p : Prop => class_const hS0 p
  clear hS0
  repeat (first
    | (with_reducible refine tree_load (o := ⟨some 32, .load _ _, _, _, _, _⟩) rfl rfl rfl rfl rfl c3 ?_)
    | (refine tree_take rfl (fun K hK => ?_); go_simp; (first | with_reducible refine hK _ ?_ | (rw [if_neg (by decide)]; with_reducible refine hK _ ?_)); clear hK K))
  refine tree_one_yes (o := _) rfl rfl (fun K hK => ?_) (cS _ _ hs (by (try dsimp only [List.set]); repeat (first | with_reducible exact List.mem_cons_self | with_reducible apply List.mem_cons_of_mem)))
  refine op_copy_u8 hs rfl Try.underlying36 sz_u8 (b := b9) (i := 10) (n := 50) rfl (k := 0) rfl (by simp) rfl hb.tail.tail (by omega) fun w1 h => hK _ _ (cS _ _ h (by (try dsimp only [List.set]); repeat (first | with_reducible exact List.mem_cons_self | with_reducible apply List.mem_cons_of_mem))) ?_
  clear hs hK K
  have hs := h
  clear h
  try dsimp only [List.set] at hs
  try go_simp
  refine tree_done ?_
  rw [Fr.lay4 _ _ _ _ (by simp) h50, Fr.lay_f60 f h50] at hs
  clear hq
  have hl60 := Fr.f60_length h50
  have hs1 := (show Sat W w1 (row b9 (u8s f.f60 ++ u8s (List.replicate 4 0)) 5 :: row b1 (frCells f (.slice Ab f.body.length cb)) 110 :: L) by rw [← u8s_append]; exact hs).sub (i := 0) rfl (own_row (n := 60) (cap := 64) (sz := 1) (by simp [hl60]) (by omega) (by omega) (by simp))
  clear hs
  have hs := hs1
  clear hs1
  dsimp only [List.set] at hs
  have hpk : Box (u8s f.f60 ++ u8s (be 4 (crcOf f.f60).toNat) = u8s f.pack) := ⟨by rw [← u8s_append]; rfl⟩
  go_wp2_with (first
    | (go_at_call 73; go_must (refine (of_spec W _ _ hs _ f.f60 (own_bytes 0 rfl hl60.symm rfl) (by omega)).mono ?_); clear hs; rintro e w1 ⟨rfl, hs⟩)
    | (go_at_call 72; go_must (refine (num_spec W _ _ hs (crcOf f.f60).toNat (crcOf f.f60).isLt).mono ?_); clear hs; rintro e w1 ⟨rfl, hs⟩)
    | (guard_target = wpList _ _ _ (⟨some 38, .call _, _, _, _, _⟩ :: _) _ _; refine wpl (o := ⟨some 38, .call _, _, _, _, _⟩) rfl fun K hK => ?_; go_must (refine op_append_str hs rfl Try.underlying36 Try.underlying9 info_u8 rfl (k := 0) rfl rfl (l := be 4 (crcOf f.f60).toNat) rfl (by simp) (by simp) fun v38 w4 h => hK _ _ ?_); clear hs hK K; have hs := h; clear h; try dsimp only [List.set] at hs))
  go_ret2
  rw [hpk.out] at hs
  refine ⟨v38, rfl, ?_⟩
  have := hs.pack (L := own v38 5 (60 + (be 4 (crcOf f.f60).toNat).length) 1 (u8s f.pack) :: L) (by repeat (first | with_reducible exact Pack.refl | with_reducible exact Pack.nil | with_reducible refine Pack.cons (by repeat (first | with_reducible exact Pick.here | with_reducible apply Pick.there)) ?_ | with_reducible apply Pack.drop))
  simpa using this
set_option maxRecDepth 100000 in
set_option maxHeartbeats 400000 in
theorem fpack_full (W w : World) (L : List HP) (hs : Sat W w L) (f : Fr) (vb : Value) (hb : Has L (bytesAt vb f.body)) (h50 : 50 < f.body.length) :
    Calls Try.prog 56 #[.agg #[.int .u32 (f.epoch : Nat), .int .u32 (f.seq : Nat), .int .u8 f.flag.toNat, vb]] w fun e w' => e = .returned (.tuple #[.slice none 0 0, .int .i64 3]) ∧ Sat W w' L := by
  obtain ⟨_, Ab, cb, rfl, hb1, hb2, _⟩ := hs.bytes hb
  have h50I : (50 : Int) < (f.body.length : Int) := by omega
  go_enter Try.func56, Try.ntmps56
  go_wp2_with (first
    | (guard_target = wpList _ _ _ (⟨some 1, .box _ _, _, _, _, _⟩ :: _) _ _; refine wpl (o := ⟨some 1, .box _ _, _, _, _, _⟩) rfl fun K hK => ?_; go_must (refine op_box hs rfl _ rfl (frCells f (.slice Ab f.body.length cb)) rfl fun b1 w1 h => hK _ _ ?_); clear hs hK K; have hs := h; clear h; try dsimp only [List.set] at hs)
    | (guard_target = wpList _ _ _ (⟨some 6, .load _ _, _, _, _, _⟩ :: _) _ _; refine wpl (o := ⟨some 6, .load _ _, _, _, _, _⟩) rfl fun K hK => op_load rfl (ad := ⟨b1, 3, none⟩) rfl (by kernel_rfl) (hs.cell m0 rfl) (hK _ _ ?_); clear hK K))
  go_ret2
  exact ⟨rfl, hs.tail⟩
set_option maxRecDepth 100000 in
set_option maxHeartbeats 400000 in
theorem clone_spec (W w : World) (L : List HP) (hs : Sat W w L) (v : Value) (l : List UInt8) (hv : Has L (bytesAt v l)) (hl : l.length ≤ 1000000) :
    Calls Try.prog 49 #[v] w fun e w' => ∃ v', e = .returned v' ∧ Sat W w' (own v' 5 l.length 1 (u8s l) :: L) := by
  obtain ⟨_, A, cap, rfl, h1, h2, h3⟩ := hs.bytes hv
  have hnil := run_eql_nil (P := Try.prog) Try.underlying36
  cases A with
  | none =>
    have h0 : l = [] := by
      rcases h3 with h3 | ⟨b, o, h3, _⟩
      · simpa [u8s] using h3
      · cases h3
    subst h0
    go_enter Try.func49, Try.ntmps49
    go_wp2_with fail
    go_ret
    exact ⟨_, rfl, hs.addNil none _ 1⟩
  | some A =>
    go_enter Try.func49, Try.ntmps49
    go_wp2_with (first
      | (guard_target = wpList _ _ _ (⟨some 5, .buildSlice _ _ _, _, _, _, _⟩ :: _) _ _; refine wpl (o := ⟨some 5, .buildSlice _ _ _, _, _, _, _⟩) rfl fun K hK => ?_; go_must (refine op_lit hs rfl Try.underlying36 info_u8 [] (by omega) (by simp [Instr.fill]) fun b5 w1 h => hK _ _ ?_); clear hs hK K; have hs := h; clear h; try dsimp only [List.set] at hs)
      | (guard_target = wpList _ _ _ (⟨some 7, .call _, _, _, _, _⟩ :: _) _ _; refine wpl (o := ⟨some 7, .call _, _, _, _, _⟩) rfl fun K hK => ?_; go_must (refine op_append_new hs rfl Try.underlying36 Try.underlying36 info_u8 rfl (by omega) rfl (slice_nil _ 1 (hv.tail.imp fun _ _ => trivial)) rfl hv.tail (.inr rfl) (by omega) (by omega) fun v7 w2 h => hK _ _ ?_); clear hs hK K; have hs := h; clear h; try dsimp only [List.set] at hs))
    go_ret
    refine ⟨v7, rfl, ?_⟩
    have := hs.pack (L := own v7 5 (0 + l.length) 1 ([] ++ u8s l) :: L) (by repeat (first | with_reducible exact Pack.refl | with_reducible exact Pack.nil | with_reducible refine Pack.cons (by repeat (first | with_reducible exact Pick.here | with_reducible apply Pick.there)) ?_ | with_reducible apply Pack.drop))
    simpa using this
set_option maxRecDepth 100000 in
set_option maxHeartbeats 400000 in
theorem equal_spec (W w : World) (L : List HP) (hs : Sat W w L) (v u : Value) (l m : List UInt8) (hv : Has L (bytesAt v l)) (hu : Has L (bytesAt u m)) :
    Calls Try.prog 76 #[v, u] w fun e w' => e = .returned (.bool (l == m)) ∧ Sat W w' L := by
  go_enter Try.func76, Try.ntmps76
  go_wp2_with (first
    | (guard_target = wpList _ _ _ (⟨some 6, .convert _ _ _, _, _, _, _⟩ :: _) _ _; refine wpl (o := ⟨some 6, .convert _ _ _, _, _, _, _⟩) rfl fun K hK => ?_; go_must (refine op_to_string rfl Try.underlying36 Try.underlying5 Try.underlying9 rfl (hs.bytes (hv)) (hK _ _ ?_)); clear hK K)
    | (guard_target = wpList _ _ _ (⟨some 8, .convert _ _ _, _, _, _, _⟩ :: _) _ _; refine wpl (o := ⟨some 8, .convert _ _ _, _, _, _, _⟩) rfl fun K hK => ?_; go_must (refine op_to_string rfl Try.underlying36 Try.underlying5 Try.underlying9 rfl (hs.bytes (hu)) (hK _ _ ?_)); clear hK K))
  go_ret
  exact ⟨by simp, hs⟩
end Go.Proofs.Ytimknlabhhopcaa
