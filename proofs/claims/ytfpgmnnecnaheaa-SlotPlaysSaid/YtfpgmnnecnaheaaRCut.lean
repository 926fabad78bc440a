/- The contract of the reference's Cut. -/
import Derived.Test.YtfpgmnnecnaheaaCutP
import Derived.Test.YtfpgmnnecnaheaaFrRef
import Derived.Test.YtfpgmnnecnaheaaFrames
set_option linter.unusedVariables false
set_option linter.unusedSimpArgs false
namespace Go.Proofs.Ytfpgmnnecnaheaa
open Go.RowKit
def rfs (l : List Fr) : List Value := l.flatMap rCells
@[simp] theorem rCells_length (f : Fr) : (rCells f).length = 4 := rfl
theorem rfs_length (l : List Fr) : (rfs l).length = l.length * 4 := by
  induction l with
  | nil => rfl
  | cons x l ih => simp only [rfs, List.flatMap_cons, List.length_append, List.length_cons] at ih ⊢; rw [ih]; simp; omega
theorem rfs_snoc (l : List Fr) (f : Fr) : rfs (l ++ [f]) = rfs l ++ rCells f := by simp [rfs]
def strLen (v : Value) : Nat := match v with | .string s => s.size | _ => 0
theorem strLen_str (l : List UInt8) : strLen (.string ⟨l.toArray⟩) = l.length := rfl
theorem info_rframe : (Try.prog.info? 125).map (fun i => (i.zero, i.size, i.bytes)) = some (some (.agg #[Value.int .u32 0, .int .u32 0, .int .u8 0, .string ⟨#[]⟩]), 4, 32) := by kernel_rfl
/-- The last body's frame, and the first one's flag. -/
def lastFr (epoch seq i : Nat) (b : List UInt8) : Fr := ⟨epoch, (seq + i) % 4294967296, 2, b⟩
theorem cutF_form (epoch seq : Nat) (l : List UInt8) (done : List (List UInt8)) (rest : List UInt8) (h : cuts l = done ++ [rest]) :
    cutF epoch seq l = (rawFrs epoch seq done ++ [lastFr epoch seq done.length rest]).modify 0 (·.or 1) := by
  have hlen : (rawFrs epoch seq done).length = done.length := rawFrs_length _ _ _
  unfold cutF flagged
  rw [h, rawFrs_snoc]
  generalize rawFrs epoch seq done = t at hlen
  apply List.ext_getElem?
  intro j
  simp only [List.getElem?_modify, List.length_append, List.length_cons, List.length_nil, hlen, Nat.add_sub_cancel, Nat.zero_add]
  rcases Nat.lt_trichotomy j done.length with hj | hj | hj
  · rw [List.getElem?_append_left (by omega), List.getElem?_append_left (by omega)]
    simp [show ¬ done.length = j by omega]
  · subst hj
    rw [List.getElem?_append_right (by omega), List.getElem?_append_right (by omega), hlen, Nat.sub_self]
    by_cases h0 : 0 = done.length
    · simp [h0, rawFr, lastFr, Fr.or]; rfl
    · simp [h0, rawFr, lastFr, Fr.or]
  · rw [List.getElem?_eq_none (by simp; omega), List.getElem?_eq_none (by simp; omega)]
    simp
theorem rfs_get (l : List Fr) (i : Nat) (h : i < l.length) (j : Nat) (hj : j < 4) : (rfs l)[i * 4 + j]? = (rCells l[i])[j]? := by
  induction l generalizing i with
  | nil => simp at h
  | cons x l ih =>
    simp only [rfs, List.flatMap_cons]
    cases i with
    | zero => rw [List.getElem?_append_left (by simp; omega)]; simp
    | succ i =>
      rw [List.getElem?_append_right (by simp; omega)]
      have e : (i + 1) * 4 + j - (rCells x).length = i * 4 + j := by simp; omega
      rw [e]
      exact ih i (by simpa using h)
/-- The first one's flag, laid by an addition. -/
theorem rfs_set (l : List Fr) (h : 0 < l.length) (hf : l[0].flag = 0 ∨ l[0].flag = 2) : (rfs l).set 2 (.int .u8 (((l[0].flag.toNat : Int) + 1) % 256)) = rfs (l.modify 0 (·.or 1)) := by
  cases l with
  | nil => simp at h
  | cons f l =>
    simp only [List.getElem_cons_zero] at hf ⊢
    rcases hf with hf | hf <;> simp [rfs, rCells, Fr.or, List.modify, hf] <;> rfl
theorem flag0 (epoch seq : Nat) (done : List (List UInt8)) (rest : List UInt8) (h : 0 < (rawFrs epoch seq done ++ [lastFr epoch seq done.length rest]).length) : (rawFrs epoch seq done ++ [lastFr epoch seq done.length rest])[0].flag = 0 ∨ (rawFrs epoch seq done ++ [lastFr epoch seq done.length rest])[0].flag = 2 := by
  cases done with
  | nil => right; simp [rawFrs, lastFr]
  | cons d done => left; simp [rawFrs, rawFr]
set_option maxRecDepth 100000 in
set_option maxHeartbeats 4000000 in
theorem rcut_spec (W w : World) (L : List HP) (hs : Sat W w L) (epoch seq : Nat) (he : epoch < 4294967296) (hseq : seq < 4294967296) (l : List UInt8) (hl : l.length ≤ 1000000) :
    Calls Try.prog 44 #[.int .u32 (epoch : Nat), .int .u32 (seq : Nat), .string ⟨l.toArray⟩] w fun e w' => ∃ v, e = .returned v ∧ Sat W w' (own v 125 (cuts l).length 4 (rfs (cutF epoch seq l)) :: L) := by
  have hs0 := hs.addNil none 125 4
  clear hs
  have hs := hs0
  clear hs0
  go_enter Try.func44, Try.ntmps44
  go_wp2_with fail
  go_loopw [1, 2, 7] (fun v1 v2 v7 wr => ∃ (done : List (List UInt8)) (rest : List UInt8) (n1 : Nat), Box (cuts l = done ++ cuts rest) ∧ done.length + rest.length ≤ l.length ∧ Box (n1 = (seq + done.length) % 4294967296) ∧ v1 = .int .u32 (n1 : Nat) ∧ v2 = .string ⟨rest.toArray⟩ ∧ Sat W wr (own v7 125 done.length 4 (rfs (rawFrs epoch seq done)) :: L)) (fun _ v2 _ _ => strLen v2)
  case atStart => exact ⟨[], l, seq, ⟨by simp⟩, by simp, ⟨by simp; omega⟩, rfl, rfl, hs⟩
  case round =>
    clear hs
    obtain ⟨done, rest, n1, hcut, hlen, hn1, rfl, rfl, hs⟩ := hrel
    obtain ⟨A7, c7, rfl, _, _⟩ := own_slice hs (i := 0) rfl
    by_cases hmore : 50 < rest.length
    · have hmoreI : (50 : Int) < (rest.length : Int) := by omega
      go_wp2_with (first
        | (guard_target = wpList _ _ _ (⟨some 17, .buildSlice _ _ _, _, _, _, _⟩ :: _) _ _; refine wpl (o := ⟨some 17, .buildSlice _ _ _, _, _, _, _⟩) rfl fun K hK => ?_; go_must (refine op_lit_agg1 hs rfl Try.underlying96 info_rframe [.int .u32 (epoch : Nat), .int .u32 (n1 : Nat), .int .u8 0, .string (ByteArray.extract ⟨rest.toArray⟩ 0 50)] rfl rfl (by omega) (by omega) fun b17 w1 h => hK _ _ ?_); clear hs hK K; have hs := h; clear h; try dsimp only [List.set] at hs)
        | (guard_target = wpList _ _ _ (⟨some 18, .call _, _, _, _, _⟩ :: _) _ _; refine wpl (o := ⟨some 18, .call _, _, _, _, _⟩) rfl fun K hK => ?_; go_must (refine op_append (hs.pick (A := own (.slice A7 done.length c7) 125 done.length 4 _) (by repeat (first | with_reducible exact Pick.here | with_reducible apply Pick.there))) rfl Try.underlying96 Try.underlying96 info_rframe rfl (by omega) (k := 0) rfl rfl rfl (Has.of (A := row b17 _ 125) (by (try dsimp only [List.set]); repeat (first | with_reducible exact List.mem_cons_self | with_reducible apply List.mem_cons_of_mem)) fun F hF => own_sliceAt F (own_exact (n := 1) (sz := 4) rfl (by omega) F hF)) (by simp [Value.oneCell']) (by omega) (by omega) fun v18 w2 h => hK _ _ ?_); clear hs hK K; have hs := h; clear h; try dsimp only [List.set] at hs))
      refine ⟨⟨done ++ [rest.take 50], rest.drop 50, (n1 + 1) % 4294967296, ⟨by rw [hcut.out, cuts_more hmore]; simp⟩, by simp; omega, ⟨by rw [hn1.out]; simp; omega⟩, rfl, by rw [str_extract, List.take_of_length_le (Nat.le_refl _)], ?_⟩, ?_⟩
      · have e1 : rfs (rawFrs epoch seq done) ++ [Value.int .u32 (epoch : Nat), .int .u32 (n1 : Nat), .int .u8 0, .string (ByteArray.extract ⟨rest.toArray⟩ 0 50)] = rfs (rawFrs epoch seq (done ++ [rest.take 50])) := by
          rw [rawFrs_snoc, rfs_snoc, str_extract, hn1.out]; simp [rCells, rawFr]
        rw [e1] at hs
        have hL : done.length + 1 = (done ++ [rest.take 50]).length := by simp
        rw [hL] at hs
        exact hs.pack (by repeat (first | with_reducible exact Pack.refl | with_reducible exact Pack.nil | with_reducible refine Pack.cons (by repeat (first | with_reducible exact Pick.here | with_reducible apply Pick.there)) ?_ | with_reducible apply Pack.drop))
      · rw [str_extract, strLen_str, strLen_str]; simp; omega
    · have hmoreI : ¬ (50 : Int) < (rest.length : Int) := by omega
      have hfin : Box (cutF epoch seq l = (rawFrs epoch seq done ++ [lastFr epoch seq done.length rest]).modify 0 (·.or 1)) := ⟨cutF_form epoch seq l done rest (by rw [hcut.out, cuts_last hmore])⟩
      obtain ⟨M7, hM7⟩ : ∃ M7, M7 = rawFrs epoch seq done ++ [lastFr epoch seq done.length rest] := ⟨_, rfl⟩
      have hl7 : Box (M7.length = done.length + 1) := ⟨by rw [hM7]; simp⟩
      have h07 : 0 < M7.length := by rw [hl7.out]; omega
      have e1 : Box (rfs (rawFrs epoch seq done) ++ [Value.int .u32 (epoch : Nat), .int .u32 (n1 : Nat), .int .u8 2, .string ⟨rest.toArray⟩] = rfs M7) := ⟨by
        rw [hM7, rfs_snoc, hn1.out]; simp [rCells, lastFr]⟩
      have hset : Box ((rfs M7).set 2 (.int .u8 (((M7[0].flag.toNat : Int) + 1) % 256)) = rfs (cutF epoch seq l)) := ⟨by
        rw [rfs_set M7 h07 (by subst hM7; exact flag0 _ _ _ _ h07), hfin.out, hM7]⟩
      have hcl : Box ((cuts l).length = done.length + 1) := ⟨by rw [← cutF_length epoch seq, hfin.out]; simp⟩
      clear hM7 hfin
      go_wp2_with (first
        | (guard_target = wpList _ _ _ (⟨some 28, .buildSlice _ _ _, _, _, _, _⟩ :: _) _ _; refine wpl (o := ⟨some 28, .buildSlice _ _ _, _, _, _, _⟩) rfl fun K hK => ?_; go_must (refine op_lit_agg1 hs rfl Try.underlying96 info_rframe [.int .u32 (epoch : Nat), .int .u32 (n1 : Nat), .int .u8 2, .string ⟨rest.toArray⟩] rfl rfl (by omega) (by omega) fun b28 w1 h => hK _ _ ?_); clear hs hK K; have hs := h; clear h; try dsimp only [List.set] at hs)
        | (guard_target = wpList _ _ _ (⟨some 29, .call _, _, _, _, _⟩ :: _) _ _; refine wpl (o := ⟨some 29, .call _, _, _, _, _⟩) rfl fun K hK => ?_; go_must (refine op_append (hs.pick (A := own (.slice A7 done.length c7) 125 done.length 4 _) (by repeat (first | with_reducible exact Pick.here | with_reducible apply Pick.there))) rfl Try.underlying96 Try.underlying96 info_rframe rfl (by omega) (k := 0) rfl rfl rfl (Has.of (A := row b28 _ 125) (by (try dsimp only [List.set]); repeat (first | with_reducible exact List.mem_cons_self | with_reducible apply List.mem_cons_of_mem)) fun F hF => own_sliceAt F (own_exact (n := 1) (sz := 4) rfl (by omega) F hF)) (by simp [Value.oneCell']) (by omega) (by omega) fun v29 w2 h => hK _ _ ?_); clear hs hK K; have hs := h; clear h; dsimp only [List.set] at hs; rw [e1.out] at hs
           obtain ⟨bo, co, sp, rfl, _, _, _, _⟩ := hs.ownOpen (i := 0) rfl (by omega)
           have k2 := own_cell (j := 2) hs m0 (rfs_get M7 0 h07 2 (by omega)))
        | (guard_target = wpList _ _ _ (⟨some 34, .load _ _, _, _, _, _⟩ :: _) _ _; refine wpl (o := ⟨some 34, .load _ _, _, _, _, _⟩) rfl fun K hK => op_load rfl (ad := ⟨bo, 2, none⟩) rfl (by kernel_rfl) k2 (hK _ _ ?_); clear hK K)
        | (guard_target = wpList _ _ _ (⟨none, .store _ (.tmp 37) _, _, _, _, _⟩ :: _) _ _; refine wpl (o := ⟨none, .store _ (.tmp 37) _, _, _, _, _⟩) rfl fun K hK => ?_; go_must (refine op_store_own1 hs rfl (b := bo) (i := 2) 0 rfl (by omega) rfl (.int .u8 (((M7[0].flag.toNat : Int) + 1) % 256)) rfl rfl (by kernel_rfl) (by rw [rfs_length, hl7.out]; omega) fun w5 h => hK _ _ ?_); clear hs hK K; have hs := h; clear h; dsimp only [List.set] at hs; rw [hset.out] at hs))
      go_ret
      refine ⟨.slice (some ⟨bo, 0, none⟩) (done.length + 1) co, rfl, ?_⟩
      rw [hcl.out]
      exact hs.pack (by repeat (first | with_reducible exact Pack.refl | with_reducible exact Pack.nil | with_reducible refine Pack.cons (by repeat (first | with_reducible exact Pick.here | with_reducible apply Pick.there)) ?_ | with_reducible apply Pack.drop))
end Go.Proofs.Ytfpgmnnecnaheaa
