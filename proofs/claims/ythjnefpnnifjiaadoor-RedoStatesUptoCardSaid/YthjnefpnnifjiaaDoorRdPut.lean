/- The contracts of redo.Put and redo.PutState. -/
import Derived.Test.YthjnefpnnifjiaaDoorRdKey
set_option linter.unusedVariables false
set_option linter.unusedSimpArgs false
namespace Go.Proofs.YthjnefpnnifjiaaDoor
open Go.RowKit
section
variable {P : Program} {Q : Exit → Act → World → Prop} {a : Act} {W w : World} {o : Oper} {K : Act → World → Prop} {L : List HP}
theorem op_alloc_buf (hs : Sat W w L) (hold : old W ∈ L) (ho : o.op = .alloc 95) (hz : (P.info? 95).bind (·.zero) = some (.agg #[Value.slice none 0 0, .int .i64 0, .int .i8 0]))
    (h : ∀ b w', Sat W w' (bufH W b [] :: L) → K (a.put o.dst (.pointer (some ⟨b, 0, none⟩))) w') : o.wp P a w K Q := by
  have hrun : (execOp a.eval o).run P w = .ok (.value (.pointer (some ⟨w.heap.size, 0, none⟩))) (w.alloc (.cells #[Value.slice none 0 0, .int .i64 0, .int .i8 0] 95)) := by
    cases hi : P.info? 95 with
    | none => simp [hi] at hz
    | some i =>
      have hz' : i.zero = some (.agg #[Value.slice none 0 0, .int .i64 0, .int .i8 0]) := by simpa [hi] using hz
      simp [execOp, ho, Instr.alloc, zeroValue, typeInfo, hi, hz', newVar, newRow, Value.cells]
  unfold Oper.wp
  rw [hrun]
  exact h _ _ (buf_new hs hold)
end
theorem zbuf : (Tryd.prog.info? 95).bind (·.zero) = some (.agg #[Value.slice none 0 0, .int .i64 0, .int .i8 0]) := by kernel_rfl
theorem Sat.lift1 {W w w' : World} {L : List HP} {A : HP} (h : Sat W w L) (k : Sat w w' [A, old w]) : Sat W w' (A :: L) := by
  obtain ⟨k1, k2, k3, F, ⟨F1, F2, hd, rfl, hA, F3, F4, hd2, rfl, h3, h4⟩, hw⟩ := k
  obtain ⟨h1, h2, h3', G, hG, hGw⟩ := h
  cases h3; cases h4
  refine ⟨k1.trans h1, k2.trans h2, k3.trans h3', F1.or G, ⟨F1, G, fun b => ?_, rfl, hA, hG⟩, fun b o e => ?_⟩
  · rcases (PH.dj_or.1 hd).1 b with h | h
    · exact .inl h
    · right
      cases e : G b with
      | none => rfl
      | some o =>
        have h' : w.heap[b]? = none := h
        have := hGw b o e; rw [h'] at this; cases this
  · simp only [PH.or] at e
    cases e1 : F1 b with
    | some p => rw [e1] at e; exact hw b o (by simp [PH.or, e1, e])
    | none =>
      rw [e1] at e
      refine hw b o ?_
      simp [PH.or, e1, hGw b o e]
/-- A part of a slice of structs. -/
theorem slice_part {α : Type} (f : α → List Value) (sz : Nat) (hf : ∀ x, (f x).length = sz) (h0 : 0 < sz) {W w : World} {M : List HP} (hs : Sat W w M) {v : Value} {l : List α} (hv : Has M (sliceAt v l.length sz (l.flatMap f))) (hl : 0 < l.length) : ∃ b o c, v = .slice (some ⟨b, o, none⟩) l.length c := by
  obtain ⟨hl', A, c, rfl, h1, h2, h3 | ⟨b, o, rfl, hc⟩⟩ := hs.slice hv
  · rw [h3] at hl'
    have : l.length * sz ≠ 0 := Nat.mul_ne_zero (by omega) (by omega)
    simp at hl'; omega
  · exact ⟨b, o, c, rfl⟩
theorem slice_range {α : Type} (f : α → List Value) (sz : Nat) (hf : ∀ x, (f x).length = sz) {W w : World} {M : List HP} (hs : Sat W w M) {b o c : Nat} {l : List α} (hv : Has M (sliceAt (.slice (some ⟨b, o, none⟩) l.length c) l.length sz (l.flatMap f))) (i : Nat) (h : i < l.length) : w.rangeAt b (o + i * sz) (f l[i]) := by
  obtain ⟨hl', A, c', e, h1, h2, h3 | ⟨b', o', e2, hc⟩⟩ := hs.slice hv
  · intro j v hj
    have := flat_part f sz hf l i h j v hj
    rw [h3] at this; simp at this
  · cases e; cases e2
    intro j v hj
    have := cellsAt_world hc (i * sz + j) v (flat_part f sz hf l i h j v hj)
    rw [← Nat.add_assoc] at this
    exact this
theorem zwrite : (Tryd.prog.info? 61).bind (·.zero) = some (.agg [Value.int .i64 0, .int .i64 0, .int .i64 0, .string ⟨#[]⟩].toArray) := by kernel_rfl
theorem zcell : (Tryd.prog.info? 59).bind (·.zero) = some (.agg [Value.int .i64 0, .int .i64 0, .int .i64 0, .int .i64 0, .string ⟨#[]⟩].toArray) := by kernel_rfl
theorem range_pre {w : World} {b o : Nat} {cs ds : List Value} (h : w.rangeAt b o (cs ++ ds)) : w.rangeAt b o cs := fun j v hj => h j v (by rw [List.getElem?_append_left (List.getElem?_eq_some_iff.1 hj).1]; exact hj)
theorem wC_split (x : RWr) : wC x = kC x.k ++ [(.string ⟨(x.v).toArray⟩)] := rfl
theorem cC_split (x : RCl) : cC x = kC x.k ++ [.int .i64 x.ts, (.string ⟨(x.v).toArray⟩)] := rfl
theorem wC_one (x : RWr) : ∀ v ∈ wC x, v.oneCell' = true := by simp [wC, Value.oneCell']
theorem cC_one (x : RCl) : ∀ v ∈ cC x, v.oneCell' = true := by simp [cC, Value.oneCell']
def cmC (c : RCm) (v : Value) : List Value := [.int .i64 c.ts, v]
set_option maxRecDepth 100000 in
set_option maxHeartbeats 8000000 in
theorem put_spec0 (W : World) (c : RCm) (ok : c.Ok) (hW : c.W.length ≤ 1000) (v : Value) (hv : sliceAt v c.W.length 4 (wsC c.W) (hp W)) (hm : maxLenIs W) :
    Calls Tryd.prog 12 #[.agg (cmC c v).toArray] W fun e w' => ∃ v', e = .returned v' ∧ Sat W w' [own v' 5 (encCm c).length 1 (u8s (encCm c)), old W] := by
  have hs := Sat.start W
  have hold : old W ∈ [old W] := m0
  obtain ⟨A, ca, rfl, _, _⟩ := slice_form hv
  have hvs : ∀ M, old W ∈ M → Has M (sliceAt (.slice A c.W.length ca) c.W.length 4 (wsC c.W)) := fun M h => Has.mem h fun F hF => by cases hF; exact hv
  have HV := Box.mk hvs
  have hts := ok.ts
  have hwn := wrap_u32n (c.W.length : Int)
  have hu := u32n_lt (c.W.length : Int)
  obtain ⟨u, hu2⟩ : ∃ u, u32n (c.W.length : Int) = u := ⟨_, rfl⟩
  rw [hu2] at hwn hu
  have h8 : Box ((be 8 (i63 c.ts)).length = 8) := ⟨be_length 8 _⟩
  have h4 : Box ((be 4 u).length = 4) := ⟨be_length 4 u⟩
  have HE : Box (encCm c = be 8 (i63 c.ts) ++ be 4 u ++ encWs c.W) := ⟨by unfold encCm; rw [hu2]⟩
  have hWl := Box.mk (fun i => encWs_len (c.W.take i) fun x hx => ok.ws x (List.mem_of_mem_take hx))
  have HOK := Box.mk ok.ws
  have HM := Box.mk hm
  have ht1 : -9223372036854775808 ≤ c.ts := hts.1
  have ht2 : c.ts < 9223372036854775808 := hts.2
  clear hv hvs ok hu2 hm hts
  go_enter Tryd.func12, Tryd.ntmps12
  go_wp2_with (first
    | (guard_target = wpList _ _ _ (⟨some 1, .box _ _, _, _, _, _⟩ :: _) _ _; refine wpl (o := ⟨some 1, .box _ _, _, _, _, _⟩) rfl fun K hK => ?_; go_must (refine op_box hs rfl _ rfl (cmC c (.slice A c.W.length ca)) rfl fun b1 w1 h => hK _ _ ?_); clear hs hK K; have hs := h; clear h; try dsimp only [List.set] at hs)
    | (guard_target = wpList _ _ _ (⟨some 3, .alloc _, _, _, _, _⟩ :: _) _ _; refine wpl (o := ⟨some 3, .alloc _, _, _, _, _⟩) rfl fun K hK => ?_; go_must (refine op_alloc_buf hs (by (try dsimp only [List.set]); repeat (first | exact hold | apply List.mem_cons_of_mem)) rfl zbuf fun b3 w1 h => hK _ _ ?_); clear hs hK K; have hs := h; clear h)
    | (guard_target = wpList _ _ _ (⟨some 7, .load _ _, _, _, _, _⟩ :: _) _ _; refine wpl (o := ⟨some 7, .load _ _, _, _, _, _⟩) rfl fun K hK => op_load rfl (ad := ⟨b1, 0, none⟩) rfl (by kernel_rfl) (hs.cell (l := cmC c (.slice A c.W.length ca)) (t := 24) (by (try dsimp only [List.set]); repeat (first | with_reducible exact List.mem_cons_self | with_reducible apply List.mem_cons_of_mem)) rfl) (hK _ _ ?_); clear hK K)
    | (guard_target = wpList _ _ _ (⟨some 11, .load _ _, _, _, _, _⟩ :: _) _ _; refine wpl (o := ⟨some 11, .load _ _, _, _, _, _⟩) rfl fun K hK => op_load rfl (ad := ⟨b1, 1, none⟩) rfl (by kernel_rfl) (hs.cell (l := cmC c (.slice A c.W.length ca)) (t := 24) (by (try dsimp only [List.set]); repeat (first | with_reducible exact List.mem_cons_self | with_reducible apply List.mem_cons_of_mem)) rfl) (hK _ _ ?_); clear hK K)
    | (guard_target = wpList _ _ _ (⟨some 17, .load _ _, _, _, _, _⟩ :: _) _ _; refine wpl (o := ⟨some 17, .load _ _, _, _, _, _⟩) rfl fun K hK => op_load rfl (ad := ⟨b1, 1, none⟩) rfl (by kernel_rfl) (hs.cell (l := cmC c (.slice A c.W.length ca)) (t := 24) (by (try dsimp only [List.set]); repeat (first | with_reducible exact List.mem_cons_self | with_reducible apply List.mem_cons_of_mem)) rfl) (hK _ _ ?_); clear hK K)
    | (go_at_call 46; go_must (refine (int_spec W _ _ hs c.ts ht1 ht2).mono ?_); clear hs; rintro e w1 ⟨rfl, hs⟩)
    | (go_at_call 47; go_must (refine (num_spec W _ _ hs u hu).mono ?_); clear hs; rintro e w1 ⟨rfl, hs⟩; have hnum : Box True := ⟨trivial⟩)
    | (have hh : hnum = hnum := rfl; clear hh; go_at_call 45; go_must (refine (bws_spec W _ _ b3 _ hs (.row (by decide) (.old .nil)) (be 4 u) (by simp)).mono ?_); clear hs; rintro e w1 ⟨rfl, hs⟩)
    | (go_at_call 45; go_must (refine (bws_spec W _ _ b3 [] hs (.row (by decide) (.old .nil)) (be 8 (i63 c.ts)) (by simp)).mono ?_); clear hs; rintro e w1 ⟨rfl, hs⟩))
  rw [List.nil_append] at hs
  obtain ⟨pre, hpre⟩ : ∃ pre, be 8 (i63 c.ts) ++ be 4 u = pre := ⟨_, rfl⟩
  have hpl : pre.length = 12 := by rw [← hpre]; simp
  rw [hpre] at hs
  have HE2 : Box (encCm c = pre ++ encWs c.W) := ⟨by rw [HE.out, hpre]⟩
  clear HE hpre
  go_loopw [19] (fun v19 wr => ∃ i : Nat, i ≤ c.W.length ∧ v19 = .int .i64 (i : Nat) ∧ Sat W wr [bufH W b3 (pre ++ encWs (c.W.take i)), row b1 (cmC c (.slice A c.W.length ca)) 24, old W]) (fun v19 _ => c.W.length - (intOf v19).toNat)
  case atStart => exact ⟨0, by omega, rfl, by simp only [List.take_zero, encWs, List.map_nil, List.flatten_nil, List.append_nil]; exact hs.pack (by repeat (first | with_reducible exact Pack.refl | with_reducible exact Pack.nil | with_reducible refine Pack.cons (by repeat (first | with_reducible exact Pick.here | with_reducible apply Pick.there)) ?_ | with_reducible apply Pack.drop))⟩
  case round =>
    clear hs
    obtain ⟨i, hi, rfl, hs⟩ := hrel
    by_cases hlt : i < c.W.length
    · have hltI : (i : Int) < (c.W.length : Int) := by omega
      obtain ⟨ba, oa, ca', e⟩ := slice_part wC 4 wC_length (by omega) hs (HV.out _ m2) (by omega)
      cases e
      have hr := slice_range wC 4 wC_length hs (HV.out _ m2) i hlt
      have hsn := Box.mk (encWs_snoc c.W i hlt)
      have hwl := hWl.out i
      have hx := HOK.out c.W[i] (List.getElem_mem hlt)
      have htk : (c.W.take i).length ≤ i := by simp; omega
      obtain ⟨acc, hacc⟩ : ∃ acc, pre ++ encWs (c.W.take i) = acc := ⟨_, rfl⟩
      have hal : acc.length ≤ 12 + 2000000014 * 1000 := by
        have : 2000000014 * (c.W.take i).length ≤ 2000000014 * 1000 := Nat.mul_le_mul_left _ (by omega)
        rw [← hacc, List.length_append]; omega
      rw [hacc] at hs
      have HAC := Box.mk hacc
      generalize c.W[i] = x at hr hsn hx
      have htl := text_len x.v
      have hvl : x.v.length ≤ 1000000000 := hx.2
      obtain ⟨tx, htx⟩ : ∃ tx, text x.v = tx := ⟨_, rfl⟩
      obtain ⟨ky, hky⟩ : ∃ ky, encK x.k = ky := ⟨_, rfl⟩
      have hkl : ky.length = 12 := by rw [← hky]; exact encK_len _
      rw [htx] at htl
      have HTX := Box.mk htx
      have HKY := Box.mk hky
      have hnext : Box (pre ++ encWs (c.W.take (i + 1)) = acc ++ ky ++ tx) := ⟨by rw [hsn.out, ← List.append_assoc, HAC.out]; unfold encW; rw [HTX.out, HKY.out, List.append_assoc]⟩
      clear hwl hx htk hacc htx hky
      go_wp2_with (first
        | (guard_target = wpList _ _ _ (⟨some 22, .load _ _, _, _, _, _⟩ :: _) _ _; refine wpl (o := ⟨some 22, .load _ _, _, _, _, _⟩) rfl fun K hK => op_load_agg rfl (b := ba) (i := oa + i * 4) rfl (wC x) hr (by kernel_rfl) (by kernel_rfl) (hK _ _ ?_); clear hK K)
        | (guard_target = wpList _ _ _ (⟨some 5, .alloc _, _, _, _, _⟩ :: _) _ _; refine wpl (o := ⟨some 5, .alloc _, _, _, _, _⟩) rfl fun K hK => ?_; go_must (refine op_alloc hs rfl _ zwrite [Value.int .i64 0, .int .i64 0, .int .i64 0, .string ⟨#[]⟩] rfl fun b5 w1 h => hK _ _ ?_); clear hs hK K; have hs := h; clear h; try dsimp only [List.set] at hs)
        | (guard_target = wpList _ _ _ (⟨none, .store _ (.tmp 5) _, _, _, _, _⟩ :: _) _ _; refine wpl (o := ⟨none, .store _ (.tmp 5) _, _, _, _, _⟩) rfl fun K hK => ?_; go_must (refine op_store_whole hs (b := b5) rfl rfl (wC x) rfl (wC_one x) (by kernel_rfl) (k := 0) rfl rfl fun w9 h => hK _ _ ?_); clear hs hK K; have hs := h; clear h; dsimp only [List.set] at hs)
        | (guard_target = wpList _ _ _ (⟨some 24, .load _ _, _, _, _, _⟩ :: _) _ _; refine wpl (o := ⟨some 24, .load _ _, _, _, _, _⟩) rfl fun K hK => op_load_agg rfl (b := b5) (i := 0) rfl (kC x.k) (range_pre (ds := [(.string ⟨(x.v).toArray⟩)]) (range_whole hs (show row b5 (wC x) 61 ∈ _ from (by (try dsimp only [List.set]); repeat (first | with_reducible exact List.mem_cons_self | with_reducible apply List.mem_cons_of_mem))))) (by kernel_rfl) (by kernel_rfl) (hK _ _ ?_); clear hK K)
        | (go_at_call 48; go_must (refine (rdkey_spec W _ _ b3 acc (hs.pick (A := bufH W b3 acc) (by repeat (first | with_reducible exact Pick.here | with_reducible apply Pick.there))) (.row (by decide) (.row (by decide) (.old .nil))) x.k (by omega)).mono ?_); clear hs; rintro e w1 ⟨rfl, hs⟩; rw [HKY.out] at hs)
        | (guard_target = wpList _ _ _ (⟨some 27, .load _ _, _, _, _, _⟩ :: _) _ _; refine wpl (o := ⟨some 27, .load _ _, _, _, _, _⟩) rfl fun K hK => op_load rfl (ad := ⟨b5, 3, none⟩) rfl (by kernel_rfl) (hs.cell (l := wC x) (t := 61) (by (try dsimp only [List.set]); repeat (first | with_reducible exact List.mem_cons_self | with_reducible apply List.mem_cons_of_mem)) rfl) (hK _ _ ?_); clear hK K)
        | (go_at_call 49; go_must (refine (text_spec W _ _ hs (by (try dsimp only [List.set]); repeat (first | exact hold | apply List.mem_cons_of_mem)) HM.out x.v (by omega)).mono ?_); clear hs; rintro e w1 ⟨rfl, hs⟩; rw [HTX.out])
        | (go_at_call 45; go_must (refine (bws_spec W _ _ b3 (acc ++ ky) hs (.row (by decide) (.row (by decide) (.old .nil))) tx (by rw [List.length_append]; omega)).mono ?_); clear hs; rintro e w1 ⟨rfl, hs⟩))
      refine ⟨⟨i + 1, by omega, by go_num, ?_⟩, by simp only [intOf]; omega⟩
      rw [hnext.out]
      exact hs.pack (by repeat (first | with_reducible exact Pack.refl | with_reducible exact Pack.nil | with_reducible refine Pack.cons (by repeat (first | with_reducible exact Pick.here | with_reducible apply Pick.there)) ?_ | with_reducible apply Pack.drop))
    · have hltI : ¬ (i : Int) < (c.W.length : Int) := by omega
      have e : pre ++ encWs (c.W.take i) = encCm c := by rw [List.take_of_length_le (by omega), HE2.out]
      rw [e] at hs
      go_wp2_with (first
        | (go_at_call 50; go_must (refine (bbytes_spec W _ _ b3 _ hs (.row (by decide) (.old .nil))).mono ?_); clear hs; rintro e w1 ⟨v2, rfl, hs⟩))
      go_ret
      exact ⟨v2, rfl, hs.pack (by repeat (first | with_reducible exact Pack.refl | with_reducible exact Pack.nil | with_reducible refine Pack.cons (by repeat (first | with_reducible exact Pick.here | with_reducible apply Pick.there)) ?_ | with_reducible apply Pack.drop))⟩
theorem put_spec (W w : World) (L : List HP) (hs : Sat W w L) (hold : old W ∈ L) (hm : maxLenIs W) (c : RCm) (ok : c.Ok) (hW : c.W.length ≤ 1000) (v : Value) (hv : Has L (sliceAt v c.W.length 4 (wsC c.W))) :
    Calls Tryd.prog 12 #[.agg (cmC c v).toArray] w fun e w' => ∃ v', e = .returned v' ∧ Sat W w' (own v' 5 (encCm c).length 1 (u8s (encCm c)) :: L) := by
  obtain ⟨m, hm⟩ := hm
  exact (put_spec0 w c ok hW v (hv.world hs fun _ _ => sliceAt_mono) ⟨m, maxLen_old hs hold hm⟩).mono fun e w' ⟨v', e1, h⟩ => ⟨v', e1, hs.lift1 h⟩
def stC (s : RSt) (v : Value) : List Value := [.int .i64 s.last, .int .u32 (s.epoch : Nat), .int .u32 (s.low : Nat), v]
def natsC (l : List Nat) : List Value := l.map fun n => .int .u32 (n : Nat)
theorem natsC_one (l : List Nat) : ∀ v ∈ natsC l, v.oneCell' = true := fun v hv => by
  obtain ⟨n, _, rfl⟩ := List.mem_map.1 hv; rfl
theorem natsC_get (l : List Nat) (i : Nat) (h : i < l.length) : (natsC l)[i]? = some (.int .u32 (l[i] : Nat)) := by simp [natsC, h]
theorem info_u32R : (Tryd.prog.info? 36).map (fun i => (i.zero, i.size, i.bytes)) = some (some (.int .u32 0), 1, 4) := by kernel_rfl
def encN (l : List Nat) : List UInt8 := (l.map fun n => be 4 n).flatten
theorem encN_snoc (l : List Nat) (i : Nat) (h : i < l.length) : encN (l.take (i + 1)) = encN (l.take i) ++ be 4 l[i] := by
  unfold encN
  rw [List.take_succ_eq_append_getElem h]
  simp only [List.map_append, List.flatten_append, List.map_cons, List.map_nil, List.flatten_cons, List.flatten_nil, List.append_nil]
theorem encN_len (l : List Nat) : (encN l).length = 4 * l.length := by
  unfold encN
  induction l with
  | nil => rfl
  | cons x l ih => simp only [List.map_cons, List.flatten_cons, List.length_append, List.length_cons, be_length] at ih ⊢; omega
set_option maxRecDepth 100000 in
set_option maxHeartbeats 8000000 in
theorem putState_spec0 (W : World) (s : RSt) (ok : s.Ok) (hL : s.L.length ≤ 1000) (v : Value) (hv : sliceAt v s.L.length 5 (csC s.L) (hp W)) (hm : maxLenIs W) :
    Calls Tryd.prog 22 #[.agg (stC s v).toArray] W fun e w' => ∃ v', e = .returned v' ∧ Sat W w' [own v' 5 (encSt s).length 1 (u8s (encSt s)), old W] := by
  have hs := Sat.start W
  have hold : old W ∈ [old W] := m0
  obtain ⟨A, ca, rfl, _, _⟩ := slice_form hv
  have hvs : ∀ M, old W ∈ M → Has M (sliceAt (.slice A s.L.length ca) s.L.length 5 (csC s.L)) := fun M h => Has.mem h fun F hF => by cases hF; exact hv
  have HV := Box.mk hvs
  have hwn := wrap_u32n (s.L.length : Int)
  have hu := u32n_lt (s.L.length : Int)
  obtain ⟨u, hu2⟩ : ∃ u, u32n (s.L.length : Int) = u := ⟨_, rfl⟩
  rw [hu2] at hwn hu
  obtain ⟨ns, hns⟩ : ∃ ns, [s.epoch, s.low, u] = ns := ⟨_, rfl⟩
  have hn3 : ns.length = 3 := by rw [← hns]; rfl
  have hnlt : Box (∀ n ∈ ns, n < 4294967296) := ⟨fun n hn => by
    rw [← hns] at hn
    simp only [List.mem_cons, List.not_mem_nil, or_false] at hn
    rcases hn with rfl | rfl | rfl
    · exact ok.epoch
    · exact ok.low
    · exact hu⟩
  have HE : Box (encSt s = be 8 (i63 s.last) ++ encN ns ++ encCs s.L) := ⟨by unfold encSt encN; rw [hu2, ← hns]; simp⟩
  have HNS := Box.mk hns
  have hLl := Box.mk (fun i => encCs_len (s.L.take i) fun x hx => ok.ls x (List.mem_of_mem_take hx))
  have HOK := Box.mk ok.ls
  have HM := Box.mk hm
  have ht1 : -9223372036854775808 ≤ s.last := ok.last.1
  have ht2 : s.last < 9223372036854775808 := ok.last.2
  clear hv hvs ok hu2 hm hns
  go_enter Tryd.func22, Tryd.ntmps22
  go_wp2_with (first
    | (guard_target = wpList _ _ _ (⟨some 1, .box _ _, _, _, _, _⟩ :: _) _ _; refine wpl (o := ⟨some 1, .box _ _, _, _, _, _⟩) rfl fun K hK => ?_; go_must (refine op_box hs rfl _ rfl (stC s (.slice A s.L.length ca)) rfl fun b1 w1 h => hK _ _ ?_); clear hs hK K; have hs := h; clear h; try dsimp only [List.set] at hs)
    | (guard_target = wpList _ _ _ (⟨some 3, .alloc _, _, _, _, _⟩ :: _) _ _; refine wpl (o := ⟨some 3, .alloc _, _, _, _, _⟩) rfl fun K hK => ?_; go_must (refine op_alloc_buf hs (by (try dsimp only [List.set]); repeat (first | exact hold | apply List.mem_cons_of_mem)) rfl zbuf fun b3 w1 h => hK _ _ ?_); clear hs hK K; have hs := h; clear h)
    | (guard_target = wpList _ _ _ (⟨some 9, .load _ _, _, _, _, _⟩ :: _) _ _; refine wpl (o := ⟨some 9, .load _ _, _, _, _, _⟩) rfl fun K hK => op_load rfl (ad := ⟨b1, 0, none⟩) rfl (by kernel_rfl) (hs.cell (l := stC s (.slice A s.L.length ca)) (t := 43) (by (try dsimp only [List.set]); repeat (first | with_reducible exact List.mem_cons_self | with_reducible apply List.mem_cons_of_mem)) rfl) (hK _ _ ?_); clear hK K)
    | (guard_target = wpList _ _ _ (⟨some 13, .load _ _, _, _, _, _⟩ :: _) _ _; refine wpl (o := ⟨some 13, .load _ _, _, _, _, _⟩) rfl fun K hK => op_load rfl (ad := ⟨b1, 1, none⟩) rfl (by kernel_rfl) (hs.cell (l := stC s (.slice A s.L.length ca)) (t := 43) (by (try dsimp only [List.set]); repeat (first | with_reducible exact List.mem_cons_self | with_reducible apply List.mem_cons_of_mem)) rfl) (hK _ _ ?_); clear hK K)
    | (guard_target = wpList _ _ _ (⟨some 15, .load _ _, _, _, _, _⟩ :: _) _ _; refine wpl (o := ⟨some 15, .load _ _, _, _, _, _⟩) rfl fun K hK => op_load rfl (ad := ⟨b1, 2, none⟩) rfl (by kernel_rfl) (hs.cell (l := stC s (.slice A s.L.length ca)) (t := 43) (by (try dsimp only [List.set]); repeat (first | with_reducible exact List.mem_cons_self | with_reducible apply List.mem_cons_of_mem)) rfl) (hK _ _ ?_); clear hK K)
    | (guard_target = wpList _ _ _ (⟨some 17, .load _ _, _, _, _, _⟩ :: _) _ _; refine wpl (o := ⟨some 17, .load _ _, _, _, _, _⟩) rfl fun K hK => op_load rfl (ad := ⟨b1, 3, none⟩) rfl (by kernel_rfl) (hs.cell (l := stC s (.slice A s.L.length ca)) (t := 43) (by (try dsimp only [List.set]); repeat (first | with_reducible exact List.mem_cons_self | with_reducible apply List.mem_cons_of_mem)) rfl) (hK _ _ ?_); clear hK K)
    | (guard_target = wpList _ _ _ (⟨some 20, .buildSlice _ _ _, _, _, _, _⟩ :: _) _ _; refine wpl (o := ⟨some 20, .buildSlice _ _ _, _, _, _, _⟩) rfl fun K hK => ?_; go_must (refine op_lit1 hs rfl Tryd.underlying114 info_u32R rfl (natsC ns) (by omega) (by simp [natsC, hn3]) (natsC_one _) (by rw [← HNS.out]; first | rfl | (simp [natsC, Act.eval, Act.put]; done) | (simp [natsC, Act.eval, Act.put]; rfl)) fun b20 w1 h => hK _ _ ?_); clear hs hK K; have hs := h; clear h)
    | (go_at_call 46; go_must (refine (int_spec W _ _ hs s.last ht1 ht2).mono ?_); clear hs; rintro e w1 ⟨rfl, hs⟩)
    | (go_at_call 45; go_must (refine (bws_spec W _ _ b3 [] hs (.row (by decide) (.old .nil)) (be 8 (i63 s.last)) (by simp)).mono ?_); clear hs; rintro e w1 ⟨rfl, hs⟩))
  rw [List.nil_append] at hs
  obtain ⟨pre, hpre⟩ : ∃ pre, be 8 (i63 s.last) = pre := ⟨_, rfl⟩
  have hpl : pre.length = 8 := by rw [← hpre]; simp
  rw [hpre] at hs
  have HE2 : Box (encSt s = pre ++ encN ns ++ encCs s.L) := ⟨by rw [HE.out, hpre]⟩
  clear HE hpre HNS
  go_loopw [22] (fun v22 wr => ∃ i : Nat, i ≤ 3 ∧ v22 = .int .i64 (i : Nat) ∧ Sat W wr [bufH W b3 (pre ++ encN (ns.take i)), row b20 (natsC ns) 36, row b1 (stC s (.slice A s.L.length ca)) 43, old W]) (fun v22 _ => 3 - (intOf v22).toNat)
  case atStart => exact ⟨0, by omega, rfl, by simp only [List.take_zero, encN, List.map_nil, List.flatten_nil, List.append_nil]; exact hs.pack (by repeat (first | with_reducible exact Pack.refl | with_reducible exact Pack.nil | with_reducible refine Pack.cons (by repeat (first | with_reducible exact Pick.here | with_reducible apply Pick.there)) ?_ | with_reducible apply Pack.drop))⟩
  case round =>
    clear hs
    obtain ⟨i, hi, rfl, hs⟩ := hrel
    by_cases hlt : i < 3
    · have hltI : (i : Int) < 3 := by omega
      have hil : i < ns.length := by omega
      have hg := natsC_get ns i hil
      have hsn := Box.mk (encN_snoc ns i hil)
      have hlen := encN_len (ns.take i)
      have hlt4 : (ns.take i).length ≤ 3 := by simp; omega
      have hnu := hnlt.out ns[i] (List.getElem_mem hil)
      generalize ns[i] = n at hg hsn hnu
      have k25 : wr.cell? ⟨b20, i, none⟩ = some (.int .u32 (n : Nat)) := hs.cell (l := natsC ns) (t := 36) (by (try dsimp only [List.set]); repeat (first | with_reducible exact List.mem_cons_self | with_reducible apply List.mem_cons_of_mem)) hg
      clear hg
      obtain ⟨acc, hacc⟩ : ∃ acc, pre ++ encN (ns.take i) = acc := ⟨_, rfl⟩
      have hal : acc.length ≤ 20 := by rw [← hacc]; simp; omega
      have HAC := Box.mk hacc
      rw [hacc] at hs
      clear hacc hlen hlt4
      go_wp2_with (first
        | (guard_target = wpList _ _ _ (⟨some 25, .load _ _, _, _, _, _⟩ :: _) _ _; refine wpl (o := ⟨some 25, .load _ _, _, _, _, _⟩) rfl fun K hK => op_load rfl (ad := ⟨b20, i, none⟩) rfl (by kernel_rfl) k25 (hK _ _ ?_); clear hK K)
        | (go_at_call 47; go_must (refine (num_spec W _ _ hs n hnu).mono ?_); clear hs; rintro e w1 ⟨rfl, hs⟩)
        | (go_at_call 45; go_must (refine (bws_spec W _ _ b3 acc hs (.row (by decide) (.row (by decide) (.old .nil))) (be 4 n) (by rw [be_length]; omega)).mono ?_); clear hs; rintro e w1 ⟨rfl, hs⟩))
      refine ⟨⟨i + 1, by omega, by go_num, ?_⟩, by simp only [intOf]; omega⟩
      rw [hsn.out, ← List.append_assoc, HAC.out]
      exact hs
    · have hltI : ¬ (i : Int) < 3 := by omega
      rw [List.take_of_length_le (show ns.length ≤ i by omega)] at hs
      obtain ⟨pre2, hpre2⟩ : ∃ pre2, pre ++ encN ns = pre2 := ⟨_, rfl⟩
      have hpl2 : pre2.length = 20 := by rw [← hpre2, List.length_append, encN_len]; omega
      rw [hpre2] at hs
      have HE3 : Box (encSt s = pre2 ++ encCs s.L) := ⟨by rw [HE2.out, hpre2]⟩
      clear HE2 hpre2
      go_wp2_with (first
        | (guard_target = wpList _ _ _ (⟨some 31, .load _ _, _, _, _, _⟩ :: _) _ _; refine wpl (o := ⟨some 31, .load _ _, _, _, _, _⟩) rfl fun K hK => op_load rfl (ad := ⟨b1, 3, none⟩) rfl (by kernel_rfl) (hs.cell (l := stC s (.slice A s.L.length ca)) (t := 43) (by (try dsimp only [List.set]); repeat (first | with_reducible exact List.mem_cons_self | with_reducible apply List.mem_cons_of_mem)) rfl) (hK _ _ ?_); clear hK K))
      go_loopw [33] (fun v33 wr => ∃ i : Nat, i ≤ s.L.length ∧ v33 = .int .i64 (i : Nat) ∧ Sat W wr [bufH W b3 (pre2 ++ encCs (s.L.take i)), row b1 (stC s (.slice A s.L.length ca)) 43, old W]) (fun v33 _ => s.L.length - (intOf v33).toNat)
      case atStart => exact ⟨0, by omega, rfl, by simp only [List.take_zero, encCs, List.map_nil, List.flatten_nil, List.append_nil]; exact hs.pack (by repeat (first | with_reducible exact Pack.refl | with_reducible exact Pack.nil | with_reducible refine Pack.cons (by repeat (first | with_reducible exact Pick.here | with_reducible apply Pick.there)) ?_ | with_reducible apply Pack.drop))⟩
      case round =>
        clear hs
        obtain ⟨i, hi, rfl, hs⟩ := hrel
        by_cases hlt : i < s.L.length
        · have hltI : (i : Int) < (s.L.length : Int) := by omega
          obtain ⟨ba, oa, ca', e⟩ := slice_part cC 5 cC_length (by omega) hs (HV.out _ m2) (by omega)
          cases e
          have hr := slice_range cC 5 cC_length hs (HV.out _ m2) i hlt
          have hsn := Box.mk (encCs_snoc s.L i hlt)
          have hwl := hLl.out i
          have hx := HOK.out s.L[i] (List.getElem_mem hlt)
          have htk : (s.L.take i).length ≤ i := by simp; omega
          obtain ⟨acc, hacc⟩ : ∃ acc, pre2 ++ encCs (s.L.take i) = acc := ⟨_, rfl⟩
          have hal : acc.length ≤ 20 + 2000000022 * 1000 := by
            have : 2000000022 * (s.L.take i).length ≤ 2000000022 * 1000 := Nat.mul_le_mul_left _ (by omega)
            rw [← hacc, List.length_append]; omega
          rw [hacc] at hs
          have HAC := Box.mk hacc
          generalize s.L[i] = x at hr hsn hx
          have htl := text_len x.v
          have hvl : x.v.length ≤ 1000000000 := hx.2.2
          have hx1 : -9223372036854775808 ≤ x.ts := hx.2.1.1
          have hx2 : x.ts < 9223372036854775808 := hx.2.1.2
          obtain ⟨tx, htx⟩ : ∃ tx, text x.v = tx := ⟨_, rfl⟩
          obtain ⟨ky, hky⟩ : ∃ ky, encK x.k = ky := ⟨_, rfl⟩
          have hkl : ky.length = 12 := by rw [← hky]; exact encK_len _
          rw [htx] at htl
          have HTX := Box.mk htx
          have HKY := Box.mk hky
          have hnext : Box (pre2 ++ encCs (s.L.take (i + 1)) = acc ++ ky ++ be 8 (i63 x.ts) ++ tx) := ⟨by rw [hsn.out, ← List.append_assoc, HAC.out]; unfold encC; rw [HTX.out, HKY.out]; simp only [List.append_assoc]⟩
          clear hwl hx htk hacc htx hky
          go_wp2_with (first
            | (guard_target = wpList _ _ _ (⟨some 36, .load _ _, _, _, _, _⟩ :: _) _ _; refine wpl (o := ⟨some 36, .load _ _, _, _, _, _⟩) rfl fun K hK => op_load_agg rfl (b := ba) (i := oa + i * 5) rfl (cC x) hr (by kernel_rfl) (by kernel_rfl) (hK _ _ ?_); clear hK K)
            | (guard_target = wpList _ _ _ (⟨some 7, .alloc _, _, _, _, _⟩ :: _) _ _; refine wpl (o := ⟨some 7, .alloc _, _, _, _, _⟩) rfl fun K hK => ?_; go_must (refine op_alloc hs rfl _ zcell [Value.int .i64 0, .int .i64 0, .int .i64 0, .int .i64 0, .string ⟨#[]⟩] rfl fun b7 w1 h => hK _ _ ?_); clear hs hK K; have hs := h; clear h; try dsimp only [List.set] at hs)
            | (guard_target = wpList _ _ _ (⟨none, .store _ (.tmp 7) _, _, _, _, _⟩ :: _) _ _; refine wpl (o := ⟨none, .store _ (.tmp 7) _, _, _, _, _⟩) rfl fun K hK => ?_; go_must (refine op_store_whole hs (b := b7) rfl rfl (cC x) rfl (cC_one x) (by kernel_rfl) (k := 0) rfl rfl fun w9 h => hK _ _ ?_); clear hs hK K; have hs := h; clear h; dsimp only [List.set] at hs)
            | (guard_target = wpList _ _ _ (⟨some 38, .load _ _, _, _, _, _⟩ :: _) _ _; refine wpl (o := ⟨some 38, .load _ _, _, _, _, _⟩) rfl fun K hK => op_load_agg rfl (b := b7) (i := 0) rfl (kC x.k) (range_pre (ds := [.int .i64 x.ts, (.string ⟨(x.v).toArray⟩)]) (range_whole hs (show row b7 (cC x) 59 ∈ _ from (by (try dsimp only [List.set]); repeat (first | with_reducible exact List.mem_cons_self | with_reducible apply List.mem_cons_of_mem))))) (by kernel_rfl) (by kernel_rfl) (hK _ _ ?_); clear hK K)
            | (go_at_call 48; go_must (refine (rdkey_spec W _ _ b3 acc (hs.pick (A := bufH W b3 acc) (by repeat (first | with_reducible exact Pick.here | with_reducible apply Pick.there))) (.row (by decide) (.row (by decide) (.old .nil))) x.k (by omega)).mono ?_); clear hs; rintro e w1 ⟨rfl, hs⟩; rw [HKY.out] at hs)
            | (guard_target = wpList _ _ _ (⟨some 41, .load _ _, _, _, _, _⟩ :: _) _ _; refine wpl (o := ⟨some 41, .load _ _, _, _, _, _⟩) rfl fun K hK => op_load rfl (ad := ⟨b7, 3, none⟩) rfl (by kernel_rfl) (hs.cell (l := cC x) (t := 59) (by (try dsimp only [List.set]); repeat (first | with_reducible exact List.mem_cons_self | with_reducible apply List.mem_cons_of_mem)) rfl) (hK _ _ ?_); clear hK K)
            | (go_at_call 46; go_must (refine (int_spec W _ _ hs x.ts hx1 hx2).mono ?_); clear hs; rintro e w1 ⟨rfl, hs⟩)
            | (guard_target = wpList _ _ _ (⟨some 45, .load _ _, _, _, _, _⟩ :: _) _ _; refine wpl (o := ⟨some 45, .load _ _, _, _, _, _⟩) rfl fun K hK => op_load rfl (ad := ⟨b7, 4, none⟩) rfl (by kernel_rfl) (hs.cell (l := cC x) (t := 59) (by (try dsimp only [List.set]); repeat (first | with_reducible exact List.mem_cons_self | with_reducible apply List.mem_cons_of_mem)) rfl) (hK _ _ ?_); clear hK K)
            | (go_at_call 49; go_must (refine (text_spec W _ _ hs (by (try dsimp only [List.set]); repeat (first | exact hold | apply List.mem_cons_of_mem)) HM.out x.v (by omega)).mono ?_); clear hs; rintro e w1 ⟨rfl, hs⟩; rw [HTX.out]; have htxt : Box True := ⟨trivial⟩)
            | (have hh : htxt = htxt := rfl; clear hh; go_at_call 45; go_must (refine (bws_spec W _ _ b3 (acc ++ ky ++ be 8 (i63 x.ts)) hs (.row (by decide) (.row (by decide) (.old .nil))) tx (by simp only [List.length_append, be_length]; omega)).mono ?_); clear hs; rintro e w1 ⟨rfl, hs⟩)
            | (go_at_call 45; go_must (refine (bws_spec W _ _ b3 (acc ++ ky) hs (.row (by decide) (.row (by decide) (.old .nil))) (be 8 (i63 x.ts)) (by rw [be_length, List.length_append]; omega)).mono ?_); clear hs; rintro e w1 ⟨rfl, hs⟩))
          refine ⟨⟨i + 1, by omega, by go_num, ?_⟩, by simp only [intOf]; omega⟩
          rw [hnext.out]
          exact hs.pack (by repeat (first | with_reducible exact Pack.refl | with_reducible exact Pack.nil | with_reducible refine Pack.cons (by repeat (first | with_reducible exact Pick.here | with_reducible apply Pick.there)) ?_ | with_reducible apply Pack.drop))
        · have hltI : ¬ (i : Int) < (s.L.length : Int) := by omega
          have e : pre2 ++ encCs (s.L.take i) = encSt s := by rw [List.take_of_length_le (by omega), HE3.out]
          rw [e] at hs
          go_wp2_with (first
            | (go_at_call 50; go_must (refine (bbytes_spec W _ _ b3 _ hs (.row (by decide) (.old .nil))).mono ?_); clear hs; rintro e w1 ⟨v2, rfl, hs⟩))
          go_ret
          exact ⟨v2, rfl, hs.pack (by repeat (first | with_reducible exact Pack.refl | with_reducible exact Pack.nil | with_reducible refine Pack.cons (by repeat (first | with_reducible exact Pick.here | with_reducible apply Pick.there)) ?_ | with_reducible apply Pack.drop))⟩
theorem putState_spec (W w : World) (L : List HP) (hs : Sat W w L) (hold : old W ∈ L) (hm : maxLenIs W) (s : RSt) (ok : s.Ok) (hL : s.L.length ≤ 1000) (v : Value) (hv : Has L (sliceAt v s.L.length 5 (csC s.L))) :
    Calls Tryd.prog 22 #[.agg (stC s v).toArray] w fun e w' => ∃ v', e = .returned v' ∧ Sat W w' (own v' 5 (encSt s).length 1 (u8s (encSt s)) :: L) := by
  obtain ⟨m, hm⟩ := hm
  exact (putState_spec0 w s ok hL v (hv.world hs fun _ _ => sliceAt_mono) ⟨m, maxLen_old hs hold hm⟩).mono fun e w' ⟨v', e1, h⟩ => ⟨v', e1, hs.lift1 h⟩
end Go.Proofs.YthjnefpnnifjiaaDoor
