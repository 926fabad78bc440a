/- The contract of ogiveref07.Read. -/
import Derived.Test.YtimknlabhhopcaaScAt
import Derived.Test.YtimknlabhhopcaaScRead
import Derived.Test.YtimknlabhhopcaaVdAny
import Derived.Test.YtimknlabhhopcaaFrRefM
set_option linter.unusedVariables false
set_option linter.unusedSimpArgs false
namespace Go.Proofs.Ytimknlabhhopcaa
open Go.RowKit
theorem bit1S : ∀ n, n < 256 → ((n &&& 1 != 0) = decide (n % 2 = 1)) ∧ ((n &&& 2 != 0) = decide (n / 2 % 2 = 1)) := by decide +kernel
theorem flag_1S (x : UInt8) : (x &&& 1 != 0) = decide (x.toNat % 2 = 1) := by
  rw [← (bit1S x.toNat x.toNat_lt).1]
  have e : (x &&& 1).toNat = x.toNat &&& 1 := UInt8.toNat_and x 1
  by_cases h : x &&& 1 = 0
  · rw [h] at e ⊢; rw [← e]; rfl
  · have h2 : ¬ x.toNat &&& 1 = 0 := fun h3 => h (UInt8.toNat_inj.1 (by rw [e, h3]; rfl))
    rw [bne_iff_ne.2 h, bne_iff_ne.2 h2]
theorem flag_2S (x : UInt8) : (x &&& 2 != 0) = decide (x.toNat / 2 % 2 = 1) := by
  rw [← (bit1S x.toNat x.toNat_lt).2]
  have e : (x &&& 2).toNat = x.toNat &&& 2 := UInt8.toNat_and x 2
  by_cases h : x &&& 2 = 0
  · rw [h] at e ⊢; rw [← e]; rfl
  · have h2 : ¬ x.toNat &&& 2 = 0 := fun h3 => h (UInt8.toNat_inj.1 (by rw [e, h3]; rfl))
    rw [bne_iff_ne.2 h, bne_iff_ne.2 h2]
def rrcCells (l : List Rcd) : List Value := l.flatMap fun x => [.int .u32 (x.2 : Nat), (.string ⟨(x.1).toArray⟩)]
theorem rrcCells_snoc (l : List Rcd) (x : Rcd) : rrcCells (l ++ [x]) = rrcCells l ++ [.int .u32 (x.2 : Nat), (.string ⟨(x.1).toArray⟩)] := by simp [rrcCells]
theorem rrcCells_get (l : List Rcd) (i : Nat) (h : i < l.length) (j : Nat) (hj : j < 2) : (rrcCells l)[i * 2 + j]? = [Value.int .u32 (l[i].2 : Nat), (.string ⟨(l[i].1).toArray⟩)][j]? := by
  induction l generalizing i with
  | nil => simp at h
  | cons x l ih =>
    simp only [rrcCells, List.flatMap_cons]
    cases i with
    | zero => rw [List.getElem?_append_left (by simp; omega)]; simp
    | succ i =>
      rw [List.getElem?_append_right (by simp; omega)]
      have e : (i + 1) * 2 + j - [Value.int .u32 (x.2 : Nat), (.string ⟨(x.1).toArray⟩)].length = i * 2 + j := by simp; omega
      rw [e]
      exact ih i (by simpa using h)
theorem info_rrec : (Try.prog.info? 48).map (fun i => (i.zero, i.size, i.bytes)) = some (some (.agg #[Value.int .u32 0, .string ⟨#[]⟩]), 2, 24) := by kernel_rfl
theorem rparse_lenS {P : List UInt8} (h : P.length ≤ 64) : (Fr.parse P).body.length ≤ 64 := (parse_len h).1
set_option maxRecDepth 100000 in
set_option maxHeartbeats 1000000 in
theorem rat_any (W w : World) (L : List HP) (hs : Sat W w L) (first many n : Nat) (h1 : 1 ≤ many) (h2 : many < 9223372036854775808) (hn : n < 4294967296) :
    Calls Try.prog 51 #[.int .i64 (first : Nat), .int .i64 (many : Nat), .int .u32 (n : Nat)] w fun e w' => e = .returned (.int .i64 (scAdr first many n)) ∧ Sat W w' L := by
  have h1I : ¬ (many : Int) < 1 := by omega
  have hu : IntKind.u64.wrap (many : Int) = (many : Int) := by simp [IntKind.wrap, IntKind.bits, IntKind.signed]; omega
  have hn1 : IntKind.u64.wrap (n : Int) = (n : Int) := by simp [IntKind.wrap, IntKind.bits, IntKind.signed]; omega
  have hz : ¬ many = 0 := by omega
  have hlt : n % many ≤ n := Nat.mod_le _ _
  have hrem : (n : Int) % (many : Int) = ((n % many : Nat) : Int) := by push_cast; rfl
  have htm : (n : Int).tmod (many : Int) = ((n % many : Nat) : Int) := by rw [Int.tmod_eq_emod_of_nonneg (by omega)]; push_cast; rfl
  unfold scAdr
  generalize n % many = q at hlt hrem htm
  have hi : IntKind.i64.wrap (q : Int) = (q : Int) := by rw [IntKind.wrap_i64]; omega
  have hqu : IntKind.u64.wrap (q : Int) = (q : Int) := by simp [IntKind.wrap, IntKind.bits, IntKind.signed]; omega
  obtain ⟨x, hi2⟩ : ∃ x, IntKind.i64.wrap ((first : Int) + (q : Int)) = x := ⟨_, rfl⟩
  rw [hi2]
  go_enter Try.func51, Try.ntmps51
  go_wp2_with fail
  go_ret
  exact ⟨rfl, hs⟩
def rscanPost (T : List Rcd × Nat) (W : World) (L : List HP) (e : Ending) (w' : World) : Prop := ∃ v : Value, e = .returned (.tuple #[v, .int .u32 (T.2 : Nat)]) ∧ Sat W w' (own v 48 T.1.length 2 (rrcCells T.1) :: L)
set_option maxRecDepth 100000 in
set_option maxHeartbeats 4000000 in
theorem rscan_none (W w : World) (L : List HP) (hs : Sat W w L) (vs va vr : Value) (first many : Int) (epoch from_ : Nat) (hno : first < 0 ∨ many < 1) :
    Calls Try.prog 21 #[.agg #[vs, va, vr], .int .i64 first, .int .i64 many, .int .u32 (epoch : Nat), .int .u32 (from_ : Nat)] w (rscanPost ([], from_) W L) := by
  by_cases h0 : many < 1
  · clear hno
    go_enter Try.func21, Try.ntmps21
    go_wp2_with (first
      | (guard_target = wpList _ _ _ (⟨some 5, .box _ _, _, _, _, _⟩ :: _) _ _; refine wpl (o := ⟨some 5, .box _ _, _, _, _, _⟩) rfl fun K hK => ?_; go_must (refine op_box hs rfl _ rfl [vs, va, vr] rfl fun b5 w1 h => hK _ _ ?_); clear hs hK K; have hs := h; clear h; try dsimp only [List.set] at hs))
    go_ret2
    exact ⟨_, rfl, hs.tail.addNil none 48 2⟩
  · have h1 : first < 0 := by omega
    clear hno
    go_enter Try.func21, Try.ntmps21
    go_wp2_with (first
      | (guard_target = wpList _ _ _ (⟨some 5, .box _ _, _, _, _, _⟩ :: _) _ _; refine wpl (o := ⟨some 5, .box _ _, _, _, _, _⟩) rfl fun K hK => ?_; go_must (refine op_box hs rfl _ rfl [vs, va, vr] rfl fun b5 w1 h => hK _ _ ?_); clear hs hK K; have hs := h; clear h; try dsimp only [List.set] at hs))
    go_ret2
    exact ⟨_, rfl, hs.tail.addNil none 48 2⟩
set_option maxRecDepth 100000 in
set_option maxHeartbeats 16000000 in
theorem rscan_spec (W w : World) (L : List HP) (vs va vr : Value) (D : Dk) (okD : D.Ok) (hs : Sat W w (ref vs va vr D :: L)) (first many epoch from_ : Nat) (h1 : 1 ≤ many) (hfi : first < 9223372036854775808) (h2 : many < 9223372036854775808) (hfr : from_ < 4294967296) (hr : D.row.length ≤ 1000000)
    (K : Nat) (hK : K ≤ 1000) (hKb : ∀ i, i ≤ many → (∀ j, j < i → (scF D first many epoch ((from_ + j) % 4294967296)).isSome = true) → i ≤ K) (T : List Rcd × Nat) (hT : scGo (scF D first many epoch) many from_ from_ true [] [] = T) :
    Calls Try.prog 21 #[.agg #[vs, va, vr], .int .i64 (first : Nat), .int .i64 (many : Nat), .int .u32 (epoch : Nat), .int .u32 (from_ : Nat)] w (rscanPost T W (ref vs va vr D :: L)) := by
  have hfew := okD.few
  have h1I : ¬ (many : Int) < 1 := by omega
  have hfI : ¬ (first : Int) < 0 := by omega
  have HKB := Box.mk hKb
  have HT0 := Box.mk hT
  clear hKb hT
  obtain ⟨As, cs, rfl, _, _⟩ := slice_form (hs.slice (ref_secs m0))
  obtain ⟨Aa, ca, rfl, _, _⟩ := slice_form (hs.slice (ref_ats m0))
  obtain ⟨Ar, cr, rfl, _, _⟩ := slice_form (hs.slice (ref_row m0))
  go_enter Try.func21, Try.ntmps21
  go_wp2_with (first
    | (guard_target = wpList _ _ _ (⟨some 5, .box _ _, _, _, _, _⟩ :: _) _ _; refine wpl (o := ⟨some 5, .box _ _, _, _, _, _⟩) rfl fun K hK => ?_; go_must (refine op_box hs rfl _ rfl [.slice As D.secs.length cs, .slice Aa D.row.length ca, .slice Ar D.row.length cr] rfl fun b5 w1 h => hK _ _ ?_); clear hs hK K; have hs := h; clear h; try dsimp only [List.set] at hs))
  have hs1 := (hs.addNil none 48 2).pack (L := own (.slice none 0 0) 48 0 2 [] :: row b5 [.slice As D.secs.length cs, .slice Aa D.row.length ca, .slice Ar D.row.length cr] 32 :: ref (.slice As D.secs.length cs) (.slice Aa D.row.length ca) (.slice Ar D.row.length cr) D :: L) (by repeat (first | with_reducible exact Pack.refl | with_reducible exact Pack.nil | with_reducible refine Pack.cons (by repeat (first | with_reducible exact Pick.here | with_reducible apply Pick.there)) ?_ | with_reducible apply Pack.drop))
  clear hs
  have hs := hs1
  clear hs1
  go_loopw [12, 13, 14, 15, 16] (fun v12 v13 v14 v15 v16 wr => ∃ (i next : Nat) (bg : Bool) (body : List UInt8) (out : List Rcd), i ≤ many ∧ v16 = .int .i64 (i : Nat) ∧ v13 = .int .u32 (next : Nat) ∧ v15 = .bool bg ∧ v14 = (.string ⟨(body).toArray⟩) ∧ (∀ j, j < i → (scF D first many epoch ((from_ + j) % 4294967296)).isSome = true) ∧ body.length ≤ 64 * i ∧ out.length ≤ i ∧ scGo (scF D first many epoch) (many - i) ((from_ + i) % 4294967296) next bg body out = T ∧ Sat W wr (own v12 48 out.length 2 (rrcCells out) :: row b5 [.slice As D.secs.length cs, .slice Aa D.row.length ca, .slice Ar D.row.length cr] 32 :: ref (.slice As D.secs.length cs) (.slice Aa D.row.length ca) (.slice Ar D.row.length cr) D :: L)) (fun _ _ _ _ v16 _ => many - (intOf v16).toNat)
  case atStart => exact ⟨0, from_, true, [], [], by omega, rfl, rfl, rfl, rfl, fun j hj => by omega, by simp, by simp, by rw [Nat.sub_zero, Nat.add_zero, Nat.mod_eq_of_lt hfr]; exact HT0.out, hs⟩
  case round =>
    clear hs
    obtain ⟨i, next, bg, body, out, hi, rfl, rfl, rfl, rfl, hall, hbl, hol, hgo, hs⟩ := hrel
    obtain ⟨A8, c8, rfl, _, _⟩ := own_slice hs (i := 0) rfl
    have hiK := HKB.out i hi hall
    by_cases hin : i < many
    · have hinI : (i : Int) < (many : Int) := by omega
      have hwi : IntKind.i64.wrap ((i : Int) + 1) = (i : Int) + 1 := by rw [IntKind.wrap_i64]; omega
      have hwu : IntKind.u32.wrap (i : Int) = (i : Int) := by rw [IntKind.wrap_u32]; omega
      obtain ⟨n, hn⟩ : ∃ n, (from_ + i) % 4294967296 = n := ⟨_, rfl⟩
      have hnlt : n < 4294967296 := by omega
      have hnI : IntKind.u32.wrap ((from_ : Int) + (i : Int)) = (n : Int) := by rw [IntKind.wrap_u32]; omega
      obtain ⟨n1, hn1⟩ : ∃ x, (n + 1) % 4294967296 = x := ⟨_, rfl⟩
      have hn1I : IntKind.u32.wrap ((n : Int) + 1) = (n1 : Int) := by rw [IntKind.wrap_u32]; omega
      have hnext : Box ((from_ + (i + 1)) % 4294967296 = n1) := ⟨by omega⟩
      rw [hn] at hgo
      have hk : many - i = (many - (i + 1)) + 1 := by omega
      rw [hk] at hgo
      have HGO := Box.mk hgo
      have HALL := Box.mk hall
      have HN1 := Box.mk hn1
      have HNE := Box.mk hn
      clear hgo hk hall hn1 hn
      have cS : ∀ w M, Sat W w M → row b5 [.slice As D.secs.length cs, .slice Aa D.row.length ca, .slice Ar D.row.length cr] 32 ∈ M → rngS b5 [.slice As D.secs.length cs, .slice Aa D.row.length ca, .slice Ar D.row.length cr] w := fun w M h hm => range_whole h hm
      have r5 : ∀ w, rngS b5 [.slice As D.secs.length cs, .slice Aa D.row.length ca, .slice Ar D.row.length cr] w → w.rangeAt b5 0 [.slice As D.secs.length cs, .slice Aa D.row.length ca, .slice Ar D.row.length cr] := fun w h => h
      obtain ⟨a, ha⟩ : ∃ a, scAdr first many n = a := ⟨_, rfl⟩
      have hlen := rbytes_len okD a
      obtain ⟨P, hP⟩ : ∃ P, D.rbytes a = P := ⟨_, rfl⟩
      obtain ⟨rc, hc⟩ : ∃ c, D.rcode a = c := ⟨_, rfl⟩
      have hout : (rc = 11 ∧ P = []) ∨ rc = 0 := by
        rw [← hc, ← hP]
        unfold Dk.rcode Dk.rbytes
        cases D.out a
        · exact .inr rfl
        · exact .inl ⟨rfl, rfl⟩
      rw [hP] at hlen
      have hF : scF D first many epoch n = if scIs P epoch n then some (Fr.parse P) else none := by unfold scF; rw [ha, hP]
      have hpl := rparse_lenS hlen
      have hPA := fun w (L : List HP) (hs : Sat W w L) => rparse_spec W w L hs P (by omega)
      unfold rparsePost at hPA
      have hsc : scIs P epoch n = (decide (Fr.code P = 0) && (decide ((Fr.parse P).seq = n) && decide ((Fr.parse P).epoch = epoch))) := rfl
      have hnil : rc = 11 → Fr.code P = 2 := fun h => by
        rcases hout with ⟨_, e⟩ | e
        · rw [e]; exact code_nil
        · omega
      obtain ⟨f, hf⟩ : ∃ f, Fr.parse P = f := ⟨_, rfl⟩
      obtain ⟨code, hcode⟩ : ∃ k, Fr.code P = k := ⟨_, rfl⟩
      rw [hf] at hpl hPA hF hsc
      rw [hcode] at hPA hsc hnil
      rw [hsc] at hF
      have HA := Box.mk ha
      have HP' := Box.mk hP
      have HC := Box.mk hc
      have HPA := Box.mk hPA
      have HF := Box.mk hF
      clear ha hP hc hPA hF hsc hf hcode
      have hcat : ¬ 9223372036854775807 < body.length + f.body.length := by omega
      have hcat0 : ¬ 9223372036854775807 < f.body.length := by omega
      have hcat1 : ¬ 9223372036854775807 < 0 + f.body.length := by omega
      have f1 := flag_1S f.flag
      have f2 := flag_2S f.flag
      have hfl := f.flag.toNat_lt
      obtain ⟨m1, hm1⟩ : ∃ m, f.flag.toNat % 2 = m := ⟨_, rfl⟩
      obtain ⟨d2, hd2⟩ : ∃ m, f.flag.toNat / 2 = m := ⟨_, rfl⟩
      obtain ⟨m2, hm2⟩ : ∃ m, d2 % 2 = m := ⟨_, rfl⟩
      rw [hm1] at f1
      rw [hd2, hm2] at f2
      have hm1I : (f.flag.toNat : Int) % 2 = (m1 : Int) := by omega
      have hm1T : (f.flag.toNat : Int).tmod 2 = (m1 : Int) := by rw [Int.tmod_eq_emod_of_nonneg (by omega)]; exact hm1I
      have hd2I : (f.flag.toNat : Int) / 2 = (d2 : Int) := by omega
      have hd2T : (f.flag.toNat : Int).tdiv 2 = (d2 : Int) := by rw [Int.tdiv_eq_ediv_of_nonneg (by omega)]; exact hd2I
      have hm2I : (d2 : Int) % 2 = (m2 : Int) := by omega
      have hm2T : (d2 : Int).tmod 2 = (m2 : Int) := by rw [Int.tmod_eq_emod_of_nonneg (by omega)]; exact hm2I
      have hd2w : IntKind.u8.wrap (d2 : Int) = (d2 : Int) := by rw [IntKind.wrap_u8]; omega
      have hm2w : IntKind.u8.wrap (m2 : Int) = (m2 : Int) := by rw [IntKind.wrap_u8]; omega
      have F1 := Box.mk f1
      have F2 := Box.mk f2
      clear f1 f2 hm1 hd2 hm2 hfl
      obtain ⟨g1, hg1⟩ : ∃ b : Bool, ((m1 : Int) == 1) = b := ⟨_, rfl⟩
      obtain ⟨g2, hg2⟩ : ∃ b : Bool, ((m2 : Int) == 1) = b := ⟨_, rfl⟩
      have HG : Box ((f.flag &&& 1 != 0) = g1 ∧ (f.flag &&& 2 != 0) = g2) := ⟨by
        rw [F1.out, F2.out, ← hg1, ← hg2]
        constructor <;> (rw [Bool.eq_iff_iff]; simp <;> omega)⟩
      rcases hout with ⟨rfl, hPn⟩ | rfl
      · have hc2 := hnil rfl
        subst hc2
        clear hPn hnil
        have HT : Box (T = (out, next)) := ⟨by rw [← HGO.out, scGo_none (by rw [HF.out, if_neg (by simp [*])])]⟩
        go_wp2_with fail
        have hS0 := cS _ _ hs.drew (by (try dsimp only [List.set]); repeat (first | with_reducible exact List.mem_cons_self | with_reducible apply List.mem_cons_of_mem))
        refine wp_region_tree (rngS b5 [.slice As D.secs.length cs, .slice Aa D.row.length ca, .slice Ar D.row.length cr]) (.take 0 (.take 1 (.take 2 (.take 3 (.all [(4, .all [(5, .take 6 (.take 7 (.take 8 (.take 9 (.take 10 (DTree.done))))))])]))))) (by kernel_rfl) (by kernel_rfl) (by kernel_rfl) (fun _ _ d _ _ h => by cases d <;> exact h) hS0 ?_
        have hs' := hs.drew
        clear hs
        have hs := hs'
        clear hs'
        have hq := fun p : Prop => class_const hS0 p
        clear hS0
        repeat (first
          | (with_reducible refine tree_load_agg (o := ⟨some 41, .load _ _, _, _, _, _⟩) [.slice As D.secs.length cs, .slice Aa D.row.length ca, .slice Ar D.row.length cr] rfl rfl rfl rfl ?_ ?_ r5 ?_; (kernel_rfl); (kernel_rfl))
          | (refine tree_take rfl (fun K hK => ?_); go_simp; with_reducible refine hK _ ?_; clear hK K))
        refine tree_one_yes (o := _) rfl rfl (fun K hK => ?_) (cS _ _ hs (by (try dsimp only [List.set]); repeat (first | with_reducible exact List.mem_cons_self | with_reducible apply List.mem_cons_of_mem)))
        try go_simp
        go_at_call 51
        refine (rat_any W _ _ hs first many n h1 h2 hnlt).mono ?_
        clear hs
        rintro e w5 ⟨rfl, hs⟩
        rw [HA.out]
        try go_simp
        refine hK _ _ (cS _ _ hs (by (try dsimp only [List.set]); repeat (first | with_reducible exact List.mem_cons_self | with_reducible apply List.mem_cons_of_mem))) ?_
        clear hK K
        refine tree_one_yes (o := _) rfl rfl (fun K hK => ?_) (cS _ _ hs (by (try dsimp only [List.set]); repeat (first | with_reducible exact List.mem_cons_self | with_reducible apply List.mem_cons_of_mem)))
        try go_simp
        go_at_call 50
        refine (rread_any W _ _ _ _ _ D (hs.pick (A := ref (.slice As D.secs.length cs) (.slice Aa D.row.length ca) (.slice Ar D.row.length cr) D) (by repeat (first | with_reducible exact Pick.here | with_reducible apply Pick.there))) a hr hfew).mono ?_
        clear hs
        rintro e w5 ⟨rfl, hs⟩
        rw [HC.out, HP'.out]
        try go_simp
        refine hK _ _ (cS _ _ hs (by (try dsimp only [List.set]); repeat (first | with_reducible exact List.mem_cons_self | with_reducible apply List.mem_cons_of_mem))) ?_
        clear hK K
        repeat (first
          | (with_reducible refine tree_load_agg (o := ⟨some 41, .load _ _, _, _, _, _⟩) [.slice As D.secs.length cs, .slice Aa D.row.length ca, .slice Ar D.row.length cr] rfl rfl rfl rfl ?_ ?_ r5 ?_; (kernel_rfl); (kernel_rfl))
          | (refine tree_take rfl (fun K hK => ?_); go_simp; with_reducible refine hK _ ?_; clear hK K))
        refine tree_done ?_
        clear hq cS r5
        go_wp2_with (first
          | (go_at_call 52; go_must (refine (HPA.out _ _ hs).mono ?_); clear hs; rintro e w1 ⟨rfl, hs⟩)
          | (guard_target = wpList _ _ _ (⟨some 20, .alloc _, _, _, _, _⟩ :: _) _ _; refine wpl (o := ⟨some 20, .alloc _, _, _, _, _⟩) rfl fun K hK => ?_; go_must (refine op_alloc hs rfl _ zrframe [.int .u32 0, .int .u32 0, .int .u8 0, .string ⟨#[]⟩] rfl fun b20 w1 h => hK _ _ ?_); clear hs hK K; have hs := h; clear h; try dsimp only [List.set] at hs)
          | (guard_target = wpList _ _ _ (⟨none, .store _ (.tmp 20) _, _, _, _, _⟩ :: _) _ _; refine wpl (o := ⟨none, .store _ (.tmp 20) _, _, _, _, _⟩) rfl fun K hK => ?_; go_must (refine op_store_whole hs (b := b20) rfl rfl (rCells f) rfl (by simp [rCells, Value.oneCell']) (by kernel_rfl) (k := 0) rfl rfl fun w9 h => hK _ _ ?_); clear hs hK K; have hs := h; clear h; dsimp only [List.set] at hs
             have k0 : w9.cell? ⟨b20, 0, none⟩ = some (.int .u32 (f.epoch : Nat)) := hs.cell (l := rCells f) (t := 118) (by (try dsimp only [List.set]); repeat (first | with_reducible exact List.mem_cons_self | with_reducible apply List.mem_cons_of_mem)) rfl
             have k1 : w9.cell? ⟨b20, 1, none⟩ = some (.int .u32 (f.seq : Nat)) := hs.cell (l := rCells f) (t := 118) (by (try dsimp only [List.set]); repeat (first | with_reducible exact List.mem_cons_self | with_reducible apply List.mem_cons_of_mem)) rfl
             have k2 : w9.cell? ⟨b20, 2, none⟩ = some (.int .u8 f.flag.toNat) := hs.cell (l := rCells f) (t := 118) (by (try dsimp only [List.set]); repeat (first | with_reducible exact List.mem_cons_self | with_reducible apply List.mem_cons_of_mem)) rfl
             have k3 : w9.cell? ⟨b20, 3, none⟩ = some (.string ⟨f.body.toArray⟩) := hs.cell (l := rCells f) (t := 118) (by (try dsimp only [List.set]); repeat (first | with_reducible exact List.mem_cons_self | with_reducible apply List.mem_cons_of_mem)) rfl)
          | (guard_target = wpList _ _ _ (⟨some 62, .load _ _, _, _, _, _⟩ :: _) _ _; refine wpl (o := ⟨some 62, .load _ _, _, _, _, _⟩) rfl fun K hK => op_load rfl (ad := ⟨b20, 1, none⟩) rfl (by kernel_rfl) k1 (hK _ _ ?_); clear hK K)
          | (guard_target = wpList _ _ _ (⟨some 68, .load _ _, _, _, _, _⟩ :: _) _ _; refine wpl (o := ⟨some 68, .load _ _, _, _, _, _⟩) rfl fun K hK => op_load rfl (ad := ⟨b20, 0, none⟩) rfl (by kernel_rfl) k0 (hK _ _ ?_); clear hK K)
          | (guard_target = wpList _ _ _ (⟨some 74, .load _ _, _, _, _, _⟩ :: _) _ _; refine wpl (o := ⟨some 74, .load _ _, _, _, _, _⟩) rfl fun K hK => op_load rfl (ad := ⟨b20, 2, none⟩) rfl (by kernel_rfl) k2 (hK _ _ ?_); clear hK K)
          | (guard_target = wpList _ _ _ (⟨some 85, .load _ _, _, _, _, _⟩ :: _) _ _; refine wpl (o := ⟨some 85, .load _ _, _, _, _, _⟩) rfl fun K hK => op_load rfl (ad := ⟨b20, 3, none⟩) rfl (by kernel_rfl) k3 (hK _ _ ?_); clear hK K)
          | (guard_target = wpList _ _ _ (⟨some 88, .load _ _, _, _, _, _⟩ :: _) _ _; refine wpl (o := ⟨some 88, .load _ _, _, _, _, _⟩) rfl fun K hK => op_load rfl (ad := ⟨b20, 2, none⟩) rfl (by kernel_rfl) k2 (hK _ _ ?_); clear hK K))
        go_ret2
        exact ⟨.slice A8 out.length c8, by rw [HT.out]; rfl, by rw [HT.out]; exact hs.pack (by repeat (first | with_reducible exact Pack.refl | with_reducible exact Pack.nil | with_reducible refine Pack.cons (by repeat (first | with_reducible exact Pick.here | with_reducible apply Pick.there)) ?_ | with_reducible apply Pack.drop))⟩
      · clear hnil
        by_cases c0 : code = 0
        · have e0 : ((code : Int) != 0) = false := by simp [c0]
          have C0 := Box.mk c0
          by_cases c1 : f.seq = n
          · have e1 : ((f.seq : Int) != (n : Int)) = false := by simp [c1]
            have C1 := Box.mk c1
            by_cases c2 : f.epoch = epoch
            · have e2 : ((f.epoch : Int) != (epoch : Int)) = false := by simp [c2]
              have C2 := Box.mk c2
              clear c0 c1 c2
              by_cases c3 : g1 = bg
              · subst c3
                cases g1
                · cases g2
                  · have HFS : Box (scF D first many epoch n = some f) := ⟨by rw [HF.out, if_pos (by simp [C0.out, C1.out, C2.out])]⟩
                    have hall2 : ∀ j, j < i + 1 → (scF D first many epoch ((from_ + j) % 4294967296)).isSome = true := fun j hj => by
                      by_cases e : j = i
                      · subst e; rw [HNE.out, HFS.out]; rfl
                      · exact HALL.out j (by omega)
                    have hiK2 := HKB.out (i + 1) (by omega) hall2
                    have HALL2 := Box.mk hall2
                    clear hall2
                    have HGO2 : Box (scGo (scF D first many epoch) (many - (i + 1)) n1 next false (body ++ f.body) out = T) := ⟨by
                      have := scGo_go (k := many - (i + 1)) (next := next) (bg := false) (body := body) (out := out) HFS.out HG.out.1 HG.out.2
                      rw [HN1.out] at this
                      rw [← HGO.out, this]; rfl⟩
                    go_wp2_with fail
                    have hS0 := cS _ _ hs.drew (by (try dsimp only [List.set]); repeat (first | with_reducible exact List.mem_cons_self | with_reducible apply List.mem_cons_of_mem))
                    refine wp_region_tree (rngS b5 [.slice As D.secs.length cs, .slice Aa D.row.length ca, .slice Ar D.row.length cr]) (.take 0 (.take 1 (.take 2 (.take 3 (.all [(4, .all [(5, .take 6 (.take 7 (.take 8 (.take 9 (.take 10 (DTree.done))))))])]))))) (by kernel_rfl) (by kernel_rfl) (by kernel_rfl) (fun _ _ d _ _ h => by cases d <;> exact h) hS0 ?_
                    have hs' := hs.drew
                    clear hs
                    have hs := hs'
                    clear hs'
                    have hq := fun p : Prop => class_const hS0 p
                    clear hS0
                    repeat (first
                      | (with_reducible refine tree_load_agg (o := ⟨some 41, .load _ _, _, _, _, _⟩) [.slice As D.secs.length cs, .slice Aa D.row.length ca, .slice Ar D.row.length cr] rfl rfl rfl rfl ?_ ?_ r5 ?_; (kernel_rfl); (kernel_rfl))
                      | (refine tree_take rfl (fun K hK => ?_); go_simp; with_reducible refine hK _ ?_; clear hK K))
                    refine tree_one_yes (o := _) rfl rfl (fun K hK => ?_) (cS _ _ hs (by (try dsimp only [List.set]); repeat (first | with_reducible exact List.mem_cons_self | with_reducible apply List.mem_cons_of_mem)))
                    try go_simp
                    go_at_call 51
                    refine (rat_any W _ _ hs first many n h1 h2 hnlt).mono ?_
                    clear hs
                    rintro e w5 ⟨rfl, hs⟩
                    rw [HA.out]
                    try go_simp
                    refine hK _ _ (cS _ _ hs (by (try dsimp only [List.set]); repeat (first | with_reducible exact List.mem_cons_self | with_reducible apply List.mem_cons_of_mem))) ?_
                    clear hK K
                    refine tree_one_yes (o := _) rfl rfl (fun K hK => ?_) (cS _ _ hs (by (try dsimp only [List.set]); repeat (first | with_reducible exact List.mem_cons_self | with_reducible apply List.mem_cons_of_mem)))
                    try go_simp
                    go_at_call 50
                    refine (rread_any W _ _ _ _ _ D (hs.pick (A := ref (.slice As D.secs.length cs) (.slice Aa D.row.length ca) (.slice Ar D.row.length cr) D) (by repeat (first | with_reducible exact Pick.here | with_reducible apply Pick.there))) a hr hfew).mono ?_
                    clear hs
                    rintro e w5 ⟨rfl, hs⟩
                    rw [HC.out, HP'.out]
                    try go_simp
                    refine hK _ _ (cS _ _ hs (by (try dsimp only [List.set]); repeat (first | with_reducible exact List.mem_cons_self | with_reducible apply List.mem_cons_of_mem))) ?_
                    clear hK K
                    repeat (first
                      | (with_reducible refine tree_load_agg (o := ⟨some 41, .load _ _, _, _, _, _⟩) [.slice As D.secs.length cs, .slice Aa D.row.length ca, .slice Ar D.row.length cr] rfl rfl rfl rfl ?_ ?_ r5 ?_; (kernel_rfl); (kernel_rfl))
                      | (refine tree_take rfl (fun K hK => ?_); go_simp; with_reducible refine hK _ ?_; clear hK K))
                    refine tree_done ?_
                    clear hq cS r5
                    go_wp2_with (first
                      | (go_at_call 52; go_must (refine (HPA.out _ _ hs).mono ?_); clear hs; rintro e w1 ⟨rfl, hs⟩)
                      | (guard_target = wpList _ _ _ (⟨some 20, .alloc _, _, _, _, _⟩ :: _) _ _; refine wpl (o := ⟨some 20, .alloc _, _, _, _, _⟩) rfl fun K hK => ?_; go_must (refine op_alloc hs rfl _ zrframe [.int .u32 0, .int .u32 0, .int .u8 0, .string ⟨#[]⟩] rfl fun b20 w1 h => hK _ _ ?_); clear hs hK K; have hs := h; clear h; try dsimp only [List.set] at hs)
                      | (guard_target = wpList _ _ _ (⟨none, .store _ (.tmp 20) _, _, _, _, _⟩ :: _) _ _; refine wpl (o := ⟨none, .store _ (.tmp 20) _, _, _, _, _⟩) rfl fun K hK => ?_; go_must (refine op_store_whole hs (b := b20) rfl rfl (rCells f) rfl (by simp [rCells, Value.oneCell']) (by kernel_rfl) (k := 0) rfl rfl fun w9 h => hK _ _ ?_); clear hs hK K; have hs := h; clear h; dsimp only [List.set] at hs
                         have k0 : w9.cell? ⟨b20, 0, none⟩ = some (.int .u32 (f.epoch : Nat)) := hs.cell (l := rCells f) (t := 118) (by (try dsimp only [List.set]); repeat (first | with_reducible exact List.mem_cons_self | with_reducible apply List.mem_cons_of_mem)) rfl
                         have k1 : w9.cell? ⟨b20, 1, none⟩ = some (.int .u32 (f.seq : Nat)) := hs.cell (l := rCells f) (t := 118) (by (try dsimp only [List.set]); repeat (first | with_reducible exact List.mem_cons_self | with_reducible apply List.mem_cons_of_mem)) rfl
                         have k2 : w9.cell? ⟨b20, 2, none⟩ = some (.int .u8 f.flag.toNat) := hs.cell (l := rCells f) (t := 118) (by (try dsimp only [List.set]); repeat (first | with_reducible exact List.mem_cons_self | with_reducible apply List.mem_cons_of_mem)) rfl
                         have k3 : w9.cell? ⟨b20, 3, none⟩ = some (.string ⟨f.body.toArray⟩) := hs.cell (l := rCells f) (t := 118) (by (try dsimp only [List.set]); repeat (first | with_reducible exact List.mem_cons_self | with_reducible apply List.mem_cons_of_mem)) rfl)
                      | (guard_target = wpList _ _ _ (⟨some 62, .load _ _, _, _, _, _⟩ :: _) _ _; refine wpl (o := ⟨some 62, .load _ _, _, _, _, _⟩) rfl fun K hK => op_load rfl (ad := ⟨b20, 1, none⟩) rfl (by kernel_rfl) k1 (hK _ _ ?_); clear hK K)
                      | (guard_target = wpList _ _ _ (⟨some 68, .load _ _, _, _, _, _⟩ :: _) _ _; refine wpl (o := ⟨some 68, .load _ _, _, _, _, _⟩) rfl fun K hK => op_load rfl (ad := ⟨b20, 0, none⟩) rfl (by kernel_rfl) k0 (hK _ _ ?_); clear hK K)
                      | (guard_target = wpList _ _ _ (⟨some 74, .load _ _, _, _, _, _⟩ :: _) _ _; refine wpl (o := ⟨some 74, .load _ _, _, _, _, _⟩) rfl fun K hK => op_load rfl (ad := ⟨b20, 2, none⟩) rfl (by kernel_rfl) k2 (hK _ _ ?_); clear hK K)
                      | (guard_target = wpList _ _ _ (⟨some 85, .load _ _, _, _, _, _⟩ :: _) _ _; refine wpl (o := ⟨some 85, .load _ _, _, _, _, _⟩) rfl fun K hK => op_load rfl (ad := ⟨b20, 3, none⟩) rfl (by kernel_rfl) k3 (hK _ _ ?_); clear hK K)
                      | (guard_target = wpList _ _ _ (⟨some 88, .load _ _, _, _, _, _⟩ :: _) _ _; refine wpl (o := ⟨some 88, .load _ _, _, _, _, _⟩) rfl fun K hK => op_load rfl (ad := ⟨b20, 2, none⟩) rfl (by kernel_rfl) k2 (hK _ _ ?_); clear hK K))
                    refine ⟨⟨i + 1, next, false, (body ++ f.body), out, by omega, by go_num, rfl, rfl, (by exact congrArg Value.string (str_app body f.body)), HALL2.out, by first | omega | (simp; omega) | simp, by omega, by rw [hnext.out]; exact HGO2.out, hs.pack (by repeat (first | with_reducible exact Pack.refl | with_reducible exact Pack.nil | with_reducible refine Pack.cons (by repeat (first | with_reducible exact Pick.here | with_reducible apply Pick.there)) ?_ | with_reducible apply Pack.drop))⟩, by simp only [intOf]; omega⟩
                  · have HFS : Box (scF D first many epoch n = some f) := ⟨by rw [HF.out, if_pos (by simp [C0.out, C1.out, C2.out])]⟩
                    have hall2 : ∀ j, j < i + 1 → (scF D first many epoch ((from_ + j) % 4294967296)).isSome = true := fun j hj => by
                      by_cases e : j = i
                      · subst e; rw [HNE.out, HFS.out]; rfl
                      · exact HALL.out j (by omega)
                    have hiK2 := HKB.out (i + 1) (by omega) hall2
                    have HALL2 := Box.mk hall2
                    clear hall2
                    have HGO2 : Box (scGo (scF D first many epoch) (many - (i + 1)) n1 n1 true (body ++ f.body) (out ++ [((body ++ f.body), n1)]) = T) := ⟨by
                      have := scGo_yes (k := many - (i + 1)) (next := next) (bg := false) (body := body) (out := out) HFS.out HG.out.1 HG.out.2
                      rw [HN1.out] at this
                      rw [← HGO.out, this]; rfl⟩
                    go_wp2_with fail
                    have hS0 := cS _ _ hs.drew (by (try dsimp only [List.set]); repeat (first | with_reducible exact List.mem_cons_self | with_reducible apply List.mem_cons_of_mem))
                    refine wp_region_tree (rngS b5 [.slice As D.secs.length cs, .slice Aa D.row.length ca, .slice Ar D.row.length cr]) (.take 0 (.take 1 (.take 2 (.take 3 (.all [(4, .all [(5, .take 6 (.take 7 (.take 8 (.take 9 (.take 10 (DTree.done))))))])]))))) (by kernel_rfl) (by kernel_rfl) (by kernel_rfl) (fun _ _ d _ _ h => by cases d <;> exact h) hS0 ?_
                    have hs' := hs.drew
                    clear hs
                    have hs := hs'
                    clear hs'
                    have hq := fun p : Prop => class_const hS0 p
                    clear hS0
                    repeat (first
                      | (with_reducible refine tree_load_agg (o := ⟨some 41, .load _ _, _, _, _, _⟩) [.slice As D.secs.length cs, .slice Aa D.row.length ca, .slice Ar D.row.length cr] rfl rfl rfl rfl ?_ ?_ r5 ?_; (kernel_rfl); (kernel_rfl))
                      | (refine tree_take rfl (fun K hK => ?_); go_simp; with_reducible refine hK _ ?_; clear hK K))
                    refine tree_one_yes (o := _) rfl rfl (fun K hK => ?_) (cS _ _ hs (by (try dsimp only [List.set]); repeat (first | with_reducible exact List.mem_cons_self | with_reducible apply List.mem_cons_of_mem)))
                    try go_simp
                    go_at_call 51
                    refine (rat_any W _ _ hs first many n h1 h2 hnlt).mono ?_
                    clear hs
                    rintro e w5 ⟨rfl, hs⟩
                    rw [HA.out]
                    try go_simp
                    refine hK _ _ (cS _ _ hs (by (try dsimp only [List.set]); repeat (first | with_reducible exact List.mem_cons_self | with_reducible apply List.mem_cons_of_mem))) ?_
                    clear hK K
                    refine tree_one_yes (o := _) rfl rfl (fun K hK => ?_) (cS _ _ hs (by (try dsimp only [List.set]); repeat (first | with_reducible exact List.mem_cons_self | with_reducible apply List.mem_cons_of_mem)))
                    try go_simp
                    go_at_call 50
                    refine (rread_any W _ _ _ _ _ D (hs.pick (A := ref (.slice As D.secs.length cs) (.slice Aa D.row.length ca) (.slice Ar D.row.length cr) D) (by repeat (first | with_reducible exact Pick.here | with_reducible apply Pick.there))) a hr hfew).mono ?_
                    clear hs
                    rintro e w5 ⟨rfl, hs⟩
                    rw [HC.out, HP'.out]
                    try go_simp
                    refine hK _ _ (cS _ _ hs (by (try dsimp only [List.set]); repeat (first | with_reducible exact List.mem_cons_self | with_reducible apply List.mem_cons_of_mem))) ?_
                    clear hK K
                    repeat (first
                      | (with_reducible refine tree_load_agg (o := ⟨some 41, .load _ _, _, _, _, _⟩) [.slice As D.secs.length cs, .slice Aa D.row.length ca, .slice Ar D.row.length cr] rfl rfl rfl rfl ?_ ?_ r5 ?_; (kernel_rfl); (kernel_rfl))
                      | (refine tree_take rfl (fun K hK => ?_); go_simp; with_reducible refine hK _ ?_; clear hK K))
                    refine tree_done ?_
                    clear hq cS r5
                    go_wp2_with (first
                      | (go_at_call 52; go_must (refine (HPA.out _ _ hs).mono ?_); clear hs; rintro e w1 ⟨rfl, hs⟩)
                      | (guard_target = wpList _ _ _ (⟨some 20, .alloc _, _, _, _, _⟩ :: _) _ _; refine wpl (o := ⟨some 20, .alloc _, _, _, _, _⟩) rfl fun K hK => ?_; go_must (refine op_alloc hs rfl _ zrframe [.int .u32 0, .int .u32 0, .int .u8 0, .string ⟨#[]⟩] rfl fun b20 w1 h => hK _ _ ?_); clear hs hK K; have hs := h; clear h; try dsimp only [List.set] at hs)
                      | (guard_target = wpList _ _ _ (⟨none, .store _ (.tmp 20) _, _, _, _, _⟩ :: _) _ _; refine wpl (o := ⟨none, .store _ (.tmp 20) _, _, _, _, _⟩) rfl fun K hK => ?_; go_must (refine op_store_whole hs (b := b20) rfl rfl (rCells f) rfl (by simp [rCells, Value.oneCell']) (by kernel_rfl) (k := 0) rfl rfl fun w9 h => hK _ _ ?_); clear hs hK K; have hs := h; clear h; dsimp only [List.set] at hs
                         have k0 : w9.cell? ⟨b20, 0, none⟩ = some (.int .u32 (f.epoch : Nat)) := hs.cell (l := rCells f) (t := 118) (by (try dsimp only [List.set]); repeat (first | with_reducible exact List.mem_cons_self | with_reducible apply List.mem_cons_of_mem)) rfl
                         have k1 : w9.cell? ⟨b20, 1, none⟩ = some (.int .u32 (f.seq : Nat)) := hs.cell (l := rCells f) (t := 118) (by (try dsimp only [List.set]); repeat (first | with_reducible exact List.mem_cons_self | with_reducible apply List.mem_cons_of_mem)) rfl
                         have k2 : w9.cell? ⟨b20, 2, none⟩ = some (.int .u8 f.flag.toNat) := hs.cell (l := rCells f) (t := 118) (by (try dsimp only [List.set]); repeat (first | with_reducible exact List.mem_cons_self | with_reducible apply List.mem_cons_of_mem)) rfl
                         have k3 : w9.cell? ⟨b20, 3, none⟩ = some (.string ⟨f.body.toArray⟩) := hs.cell (l := rCells f) (t := 118) (by (try dsimp only [List.set]); repeat (first | with_reducible exact List.mem_cons_self | with_reducible apply List.mem_cons_of_mem)) rfl)
                      | (guard_target = wpList _ _ _ (⟨some 62, .load _ _, _, _, _, _⟩ :: _) _ _; refine wpl (o := ⟨some 62, .load _ _, _, _, _, _⟩) rfl fun K hK => op_load rfl (ad := ⟨b20, 1, none⟩) rfl (by kernel_rfl) k1 (hK _ _ ?_); clear hK K)
                      | (guard_target = wpList _ _ _ (⟨some 68, .load _ _, _, _, _, _⟩ :: _) _ _; refine wpl (o := ⟨some 68, .load _ _, _, _, _, _⟩) rfl fun K hK => op_load rfl (ad := ⟨b20, 0, none⟩) rfl (by kernel_rfl) k0 (hK _ _ ?_); clear hK K)
                      | (guard_target = wpList _ _ _ (⟨some 74, .load _ _, _, _, _, _⟩ :: _) _ _; refine wpl (o := ⟨some 74, .load _ _, _, _, _, _⟩) rfl fun K hK => op_load rfl (ad := ⟨b20, 2, none⟩) rfl (by kernel_rfl) k2 (hK _ _ ?_); clear hK K)
                      | (guard_target = wpList _ _ _ (⟨some 85, .load _ _, _, _, _, _⟩ :: _) _ _; refine wpl (o := ⟨some 85, .load _ _, _, _, _, _⟩) rfl fun K hK => op_load rfl (ad := ⟨b20, 3, none⟩) rfl (by kernel_rfl) k3 (hK _ _ ?_); clear hK K)
                      | (guard_target = wpList _ _ _ (⟨some 88, .load _ _, _, _, _, _⟩ :: _) _ _; refine wpl (o := ⟨some 88, .load _ _, _, _, _, _⟩) rfl fun K hK => op_load rfl (ad := ⟨b20, 2, none⟩) rfl (by kernel_rfl) k2 (hK _ _ ?_); clear hK K)
                      | (guard_target = wpList _ _ _ (⟨some 99, .buildSlice _ _ _, _, _, _, _⟩ :: _) _ _; refine wpl (o := ⟨some 99, .buildSlice _ _ _, _, _, _, _⟩) rfl fun K hK => ?_; go_must (refine op_lit_agg1 hs rfl Try.underlying42 info_rrec [.int .u32 (n1 : Nat), (.string ⟨((body ++ f.body)).toArray⟩)] ?_ rfl (by omega) (by omega) fun b99 w1 h => hK _ _ ?_); (first | rfl | (rw [← str_app]; rfl)); clear hs hK K; have hs := h; clear h)
                      | (guard_target = wpList _ _ _ (⟨some 100, .call _, _, _, _, _⟩ :: _) _ _; refine wpl (o := ⟨some 100, .call _, _, _, _, _⟩) rfl fun K hK => ?_; go_must (refine op_append (hs.pick (A := own (.slice A8 out.length c8) 48 out.length 2 (rrcCells out)) (by repeat (first | with_reducible exact Pick.here | with_reducible apply Pick.there))) rfl Try.underlying42 Try.underlying42 info_rrec rfl (by omega) (k := 0) rfl rfl rfl (Has.of (A := row b99 [.int .u32 (n1 : Nat), (.string ⟨((body ++ f.body)).toArray⟩)] 48) (by (try dsimp only [List.set]); repeat (first | with_reducible exact List.mem_cons_self | with_reducible apply List.mem_cons_of_mem)) fun F hF => own_sliceAt F (own_exact (n := 1) (sz := 2) rfl (by omega) F hF)) (by simp [Value.oneCell']) (by omega) (by omega) fun v100 w2 h => hK _ _ ?_); clear hs hK K; have hs := h; clear h; dsimp only [List.set] at hs))
                    have e1 : rrcCells out ++ [.int .u32 (n1 : Nat), (.string ⟨((body ++ f.body)).toArray⟩)] = rrcCells (out ++ [((body ++ f.body), n1)]) := (rrcCells_snoc out ((body ++ f.body), n1)).symm
                    have e2 : out.length + 1 = (out ++ [((body ++ f.body), n1)]).length := by simp
                    rw [e1, e2] at hs
                    refine ⟨⟨i + 1, n1, true, (body ++ f.body), out ++ [((body ++ f.body), n1)], by omega, by go_num, rfl, rfl, (by exact congrArg Value.string (str_app body f.body)), HALL2.out, by first | omega | (simp; omega) | simp, by first | omega | (simp; omega) | simp, by rw [hnext.out]; exact HGO2.out, hs.pack (by repeat (first | with_reducible exact Pack.refl | with_reducible exact Pack.nil | with_reducible refine Pack.cons (by repeat (first | with_reducible exact Pick.here | with_reducible apply Pick.there)) ?_ | with_reducible apply Pack.drop))⟩, by simp only [intOf]; omega⟩
                · cases g2
                  · have HFS : Box (scF D first many epoch n = some f) := ⟨by rw [HF.out, if_pos (by simp [C0.out, C1.out, C2.out])]⟩
                    have hall2 : ∀ j, j < i + 1 → (scF D first many epoch ((from_ + j) % 4294967296)).isSome = true := fun j hj => by
                      by_cases e : j = i
                      · subst e; rw [HNE.out, HFS.out]; rfl
                      · exact HALL.out j (by omega)
                    have hiK2 := HKB.out (i + 1) (by omega) hall2
                    have HALL2 := Box.mk hall2
                    clear hall2
                    have HGO2 : Box (scGo (scF D first many epoch) (many - (i + 1)) n1 next false f.body out = T) := ⟨by
                      have := scGo_go (k := many - (i + 1)) (next := next) (bg := true) (body := body) (out := out) HFS.out HG.out.1 HG.out.2
                      rw [HN1.out] at this
                      rw [← HGO.out, this]; rfl⟩
                    go_wp2_with fail
                    have hS0 := cS _ _ hs.drew (by (try dsimp only [List.set]); repeat (first | with_reducible exact List.mem_cons_self | with_reducible apply List.mem_cons_of_mem))
                    refine wp_region_tree (rngS b5 [.slice As D.secs.length cs, .slice Aa D.row.length ca, .slice Ar D.row.length cr]) (.take 0 (.take 1 (.take 2 (.take 3 (.all [(4, .all [(5, .take 6 (.take 7 (.take 8 (.take 9 (.take 10 (DTree.done))))))])]))))) (by kernel_rfl) (by kernel_rfl) (by kernel_rfl) (fun _ _ d _ _ h => by cases d <;> exact h) hS0 ?_
                    have hs' := hs.drew
                    clear hs
                    have hs := hs'
                    clear hs'
                    have hq := fun p : Prop => class_const hS0 p
                    clear hS0
                    repeat (first
                      | (with_reducible refine tree_load_agg (o := ⟨some 41, .load _ _, _, _, _, _⟩) [.slice As D.secs.length cs, .slice Aa D.row.length ca, .slice Ar D.row.length cr] rfl rfl rfl rfl ?_ ?_ r5 ?_; (kernel_rfl); (kernel_rfl))
                      | (refine tree_take rfl (fun K hK => ?_); go_simp; with_reducible refine hK _ ?_; clear hK K))
                    refine tree_one_yes (o := _) rfl rfl (fun K hK => ?_) (cS _ _ hs (by (try dsimp only [List.set]); repeat (first | with_reducible exact List.mem_cons_self | with_reducible apply List.mem_cons_of_mem)))
                    try go_simp
                    go_at_call 51
                    refine (rat_any W _ _ hs first many n h1 h2 hnlt).mono ?_
                    clear hs
                    rintro e w5 ⟨rfl, hs⟩
                    rw [HA.out]
                    try go_simp
                    refine hK _ _ (cS _ _ hs (by (try dsimp only [List.set]); repeat (first | with_reducible exact List.mem_cons_self | with_reducible apply List.mem_cons_of_mem))) ?_
                    clear hK K
                    refine tree_one_yes (o := _) rfl rfl (fun K hK => ?_) (cS _ _ hs (by (try dsimp only [List.set]); repeat (first | with_reducible exact List.mem_cons_self | with_reducible apply List.mem_cons_of_mem)))
                    try go_simp
                    go_at_call 50
                    refine (rread_any W _ _ _ _ _ D (hs.pick (A := ref (.slice As D.secs.length cs) (.slice Aa D.row.length ca) (.slice Ar D.row.length cr) D) (by repeat (first | with_reducible exact Pick.here | with_reducible apply Pick.there))) a hr hfew).mono ?_
                    clear hs
                    rintro e w5 ⟨rfl, hs⟩
                    rw [HC.out, HP'.out]
                    try go_simp
                    refine hK _ _ (cS _ _ hs (by (try dsimp only [List.set]); repeat (first | with_reducible exact List.mem_cons_self | with_reducible apply List.mem_cons_of_mem))) ?_
                    clear hK K
                    repeat (first
                      | (with_reducible refine tree_load_agg (o := ⟨some 41, .load _ _, _, _, _, _⟩) [.slice As D.secs.length cs, .slice Aa D.row.length ca, .slice Ar D.row.length cr] rfl rfl rfl rfl ?_ ?_ r5 ?_; (kernel_rfl); (kernel_rfl))
                      | (refine tree_take rfl (fun K hK => ?_); go_simp; with_reducible refine hK _ ?_; clear hK K))
                    refine tree_done ?_
                    clear hq cS r5
                    go_wp2_with (first
                      | (go_at_call 52; go_must (refine (HPA.out _ _ hs).mono ?_); clear hs; rintro e w1 ⟨rfl, hs⟩)
                      | (guard_target = wpList _ _ _ (⟨some 20, .alloc _, _, _, _, _⟩ :: _) _ _; refine wpl (o := ⟨some 20, .alloc _, _, _, _, _⟩) rfl fun K hK => ?_; go_must (refine op_alloc hs rfl _ zrframe [.int .u32 0, .int .u32 0, .int .u8 0, .string ⟨#[]⟩] rfl fun b20 w1 h => hK _ _ ?_); clear hs hK K; have hs := h; clear h; try dsimp only [List.set] at hs)
                      | (guard_target = wpList _ _ _ (⟨none, .store _ (.tmp 20) _, _, _, _, _⟩ :: _) _ _; refine wpl (o := ⟨none, .store _ (.tmp 20) _, _, _, _, _⟩) rfl fun K hK => ?_; go_must (refine op_store_whole hs (b := b20) rfl rfl (rCells f) rfl (by simp [rCells, Value.oneCell']) (by kernel_rfl) (k := 0) rfl rfl fun w9 h => hK _ _ ?_); clear hs hK K; have hs := h; clear h; dsimp only [List.set] at hs
                         have k0 : w9.cell? ⟨b20, 0, none⟩ = some (.int .u32 (f.epoch : Nat)) := hs.cell (l := rCells f) (t := 118) (by (try dsimp only [List.set]); repeat (first | with_reducible exact List.mem_cons_self | with_reducible apply List.mem_cons_of_mem)) rfl
                         have k1 : w9.cell? ⟨b20, 1, none⟩ = some (.int .u32 (f.seq : Nat)) := hs.cell (l := rCells f) (t := 118) (by (try dsimp only [List.set]); repeat (first | with_reducible exact List.mem_cons_self | with_reducible apply List.mem_cons_of_mem)) rfl
                         have k2 : w9.cell? ⟨b20, 2, none⟩ = some (.int .u8 f.flag.toNat) := hs.cell (l := rCells f) (t := 118) (by (try dsimp only [List.set]); repeat (first | with_reducible exact List.mem_cons_self | with_reducible apply List.mem_cons_of_mem)) rfl
                         have k3 : w9.cell? ⟨b20, 3, none⟩ = some (.string ⟨f.body.toArray⟩) := hs.cell (l := rCells f) (t := 118) (by (try dsimp only [List.set]); repeat (first | with_reducible exact List.mem_cons_self | with_reducible apply List.mem_cons_of_mem)) rfl)
                      | (guard_target = wpList _ _ _ (⟨some 62, .load _ _, _, _, _, _⟩ :: _) _ _; refine wpl (o := ⟨some 62, .load _ _, _, _, _, _⟩) rfl fun K hK => op_load rfl (ad := ⟨b20, 1, none⟩) rfl (by kernel_rfl) k1 (hK _ _ ?_); clear hK K)
                      | (guard_target = wpList _ _ _ (⟨some 68, .load _ _, _, _, _, _⟩ :: _) _ _; refine wpl (o := ⟨some 68, .load _ _, _, _, _, _⟩) rfl fun K hK => op_load rfl (ad := ⟨b20, 0, none⟩) rfl (by kernel_rfl) k0 (hK _ _ ?_); clear hK K)
                      | (guard_target = wpList _ _ _ (⟨some 74, .load _ _, _, _, _, _⟩ :: _) _ _; refine wpl (o := ⟨some 74, .load _ _, _, _, _, _⟩) rfl fun K hK => op_load rfl (ad := ⟨b20, 2, none⟩) rfl (by kernel_rfl) k2 (hK _ _ ?_); clear hK K)
                      | (guard_target = wpList _ _ _ (⟨some 85, .load _ _, _, _, _, _⟩ :: _) _ _; refine wpl (o := ⟨some 85, .load _ _, _, _, _, _⟩) rfl fun K hK => op_load rfl (ad := ⟨b20, 3, none⟩) rfl (by kernel_rfl) k3 (hK _ _ ?_); clear hK K)
                      | (guard_target = wpList _ _ _ (⟨some 88, .load _ _, _, _, _, _⟩ :: _) _ _; refine wpl (o := ⟨some 88, .load _ _, _, _, _, _⟩) rfl fun K hK => op_load rfl (ad := ⟨b20, 2, none⟩) rfl (by kernel_rfl) k2 (hK _ _ ?_); clear hK K))
                    refine ⟨⟨i + 1, next, false, f.body, out, by omega, by go_num, rfl, rfl, (by first | rfl | exact congrArg Value.string (str_app [] f.body)), HALL2.out, by first | omega | (simp; omega) | simp, by omega, by rw [hnext.out]; exact HGO2.out, hs.pack (by repeat (first | with_reducible exact Pack.refl | with_reducible exact Pack.nil | with_reducible refine Pack.cons (by repeat (first | with_reducible exact Pick.here | with_reducible apply Pick.there)) ?_ | with_reducible apply Pack.drop))⟩, by simp only [intOf]; omega⟩
                  · have HFS : Box (scF D first many epoch n = some f) := ⟨by rw [HF.out, if_pos (by simp [C0.out, C1.out, C2.out])]⟩
                    have hall2 : ∀ j, j < i + 1 → (scF D first many epoch ((from_ + j) % 4294967296)).isSome = true := fun j hj => by
                      by_cases e : j = i
                      · subst e; rw [HNE.out, HFS.out]; rfl
                      · exact HALL.out j (by omega)
                    have hiK2 := HKB.out (i + 1) (by omega) hall2
                    have HALL2 := Box.mk hall2
                    clear hall2
                    have HGO2 : Box (scGo (scF D first many epoch) (many - (i + 1)) n1 n1 true f.body (out ++ [(f.body, n1)]) = T) := ⟨by
                      have := scGo_yes (k := many - (i + 1)) (next := next) (bg := true) (body := body) (out := out) HFS.out HG.out.1 HG.out.2
                      rw [HN1.out] at this
                      rw [← HGO.out, this]; rfl⟩
                    go_wp2_with fail
                    have hS0 := cS _ _ hs.drew (by (try dsimp only [List.set]); repeat (first | with_reducible exact List.mem_cons_self | with_reducible apply List.mem_cons_of_mem))
                    refine wp_region_tree (rngS b5 [.slice As D.secs.length cs, .slice Aa D.row.length ca, .slice Ar D.row.length cr]) (.take 0 (.take 1 (.take 2 (.take 3 (.all [(4, .all [(5, .take 6 (.take 7 (.take 8 (.take 9 (.take 10 (DTree.done))))))])]))))) (by kernel_rfl) (by kernel_rfl) (by kernel_rfl) (fun _ _ d _ _ h => by cases d <;> exact h) hS0 ?_
                    have hs' := hs.drew
                    clear hs
                    have hs := hs'
                    clear hs'
                    have hq := fun p : Prop => class_const hS0 p
                    clear hS0
                    repeat (first
                      | (with_reducible refine tree_load_agg (o := ⟨some 41, .load _ _, _, _, _, _⟩) [.slice As D.secs.length cs, .slice Aa D.row.length ca, .slice Ar D.row.length cr] rfl rfl rfl rfl ?_ ?_ r5 ?_; (kernel_rfl); (kernel_rfl))
                      | (refine tree_take rfl (fun K hK => ?_); go_simp; with_reducible refine hK _ ?_; clear hK K))
                    refine tree_one_yes (o := _) rfl rfl (fun K hK => ?_) (cS _ _ hs (by (try dsimp only [List.set]); repeat (first | with_reducible exact List.mem_cons_self | with_reducible apply List.mem_cons_of_mem)))
                    try go_simp
                    go_at_call 51
                    refine (rat_any W _ _ hs first many n h1 h2 hnlt).mono ?_
                    clear hs
                    rintro e w5 ⟨rfl, hs⟩
                    rw [HA.out]
                    try go_simp
                    refine hK _ _ (cS _ _ hs (by (try dsimp only [List.set]); repeat (first | with_reducible exact List.mem_cons_self | with_reducible apply List.mem_cons_of_mem))) ?_
                    clear hK K
                    refine tree_one_yes (o := _) rfl rfl (fun K hK => ?_) (cS _ _ hs (by (try dsimp only [List.set]); repeat (first | with_reducible exact List.mem_cons_self | with_reducible apply List.mem_cons_of_mem)))
                    try go_simp
                    go_at_call 50
                    refine (rread_any W _ _ _ _ _ D (hs.pick (A := ref (.slice As D.secs.length cs) (.slice Aa D.row.length ca) (.slice Ar D.row.length cr) D) (by repeat (first | with_reducible exact Pick.here | with_reducible apply Pick.there))) a hr hfew).mono ?_
                    clear hs
                    rintro e w5 ⟨rfl, hs⟩
                    rw [HC.out, HP'.out]
                    try go_simp
                    refine hK _ _ (cS _ _ hs (by (try dsimp only [List.set]); repeat (first | with_reducible exact List.mem_cons_self | with_reducible apply List.mem_cons_of_mem))) ?_
                    clear hK K
                    repeat (first
                      | (with_reducible refine tree_load_agg (o := ⟨some 41, .load _ _, _, _, _, _⟩) [.slice As D.secs.length cs, .slice Aa D.row.length ca, .slice Ar D.row.length cr] rfl rfl rfl rfl ?_ ?_ r5 ?_; (kernel_rfl); (kernel_rfl))
                      | (refine tree_take rfl (fun K hK => ?_); go_simp; with_reducible refine hK _ ?_; clear hK K))
                    refine tree_done ?_
                    clear hq cS r5
                    go_wp2_with (first
                      | (go_at_call 52; go_must (refine (HPA.out _ _ hs).mono ?_); clear hs; rintro e w1 ⟨rfl, hs⟩)
                      | (guard_target = wpList _ _ _ (⟨some 20, .alloc _, _, _, _, _⟩ :: _) _ _; refine wpl (o := ⟨some 20, .alloc _, _, _, _, _⟩) rfl fun K hK => ?_; go_must (refine op_alloc hs rfl _ zrframe [.int .u32 0, .int .u32 0, .int .u8 0, .string ⟨#[]⟩] rfl fun b20 w1 h => hK _ _ ?_); clear hs hK K; have hs := h; clear h; try dsimp only [List.set] at hs)
                      | (guard_target = wpList _ _ _ (⟨none, .store _ (.tmp 20) _, _, _, _, _⟩ :: _) _ _; refine wpl (o := ⟨none, .store _ (.tmp 20) _, _, _, _, _⟩) rfl fun K hK => ?_; go_must (refine op_store_whole hs (b := b20) rfl rfl (rCells f) rfl (by simp [rCells, Value.oneCell']) (by kernel_rfl) (k := 0) rfl rfl fun w9 h => hK _ _ ?_); clear hs hK K; have hs := h; clear h; dsimp only [List.set] at hs
                         have k0 : w9.cell? ⟨b20, 0, none⟩ = some (.int .u32 (f.epoch : Nat)) := hs.cell (l := rCells f) (t := 118) (by (try dsimp only [List.set]); repeat (first | with_reducible exact List.mem_cons_self | with_reducible apply List.mem_cons_of_mem)) rfl
                         have k1 : w9.cell? ⟨b20, 1, none⟩ = some (.int .u32 (f.seq : Nat)) := hs.cell (l := rCells f) (t := 118) (by (try dsimp only [List.set]); repeat (first | with_reducible exact List.mem_cons_self | with_reducible apply List.mem_cons_of_mem)) rfl
                         have k2 : w9.cell? ⟨b20, 2, none⟩ = some (.int .u8 f.flag.toNat) := hs.cell (l := rCells f) (t := 118) (by (try dsimp only [List.set]); repeat (first | with_reducible exact List.mem_cons_self | with_reducible apply List.mem_cons_of_mem)) rfl
                         have k3 : w9.cell? ⟨b20, 3, none⟩ = some (.string ⟨f.body.toArray⟩) := hs.cell (l := rCells f) (t := 118) (by (try dsimp only [List.set]); repeat (first | with_reducible exact List.mem_cons_self | with_reducible apply List.mem_cons_of_mem)) rfl)
                      | (guard_target = wpList _ _ _ (⟨some 62, .load _ _, _, _, _, _⟩ :: _) _ _; refine wpl (o := ⟨some 62, .load _ _, _, _, _, _⟩) rfl fun K hK => op_load rfl (ad := ⟨b20, 1, none⟩) rfl (by kernel_rfl) k1 (hK _ _ ?_); clear hK K)
                      | (guard_target = wpList _ _ _ (⟨some 68, .load _ _, _, _, _, _⟩ :: _) _ _; refine wpl (o := ⟨some 68, .load _ _, _, _, _, _⟩) rfl fun K hK => op_load rfl (ad := ⟨b20, 0, none⟩) rfl (by kernel_rfl) k0 (hK _ _ ?_); clear hK K)
                      | (guard_target = wpList _ _ _ (⟨some 74, .load _ _, _, _, _, _⟩ :: _) _ _; refine wpl (o := ⟨some 74, .load _ _, _, _, _, _⟩) rfl fun K hK => op_load rfl (ad := ⟨b20, 2, none⟩) rfl (by kernel_rfl) k2 (hK _ _ ?_); clear hK K)
                      | (guard_target = wpList _ _ _ (⟨some 85, .load _ _, _, _, _, _⟩ :: _) _ _; refine wpl (o := ⟨some 85, .load _ _, _, _, _, _⟩) rfl fun K hK => op_load rfl (ad := ⟨b20, 3, none⟩) rfl (by kernel_rfl) k3 (hK _ _ ?_); clear hK K)
                      | (guard_target = wpList _ _ _ (⟨some 88, .load _ _, _, _, _, _⟩ :: _) _ _; refine wpl (o := ⟨some 88, .load _ _, _, _, _, _⟩) rfl fun K hK => op_load rfl (ad := ⟨b20, 2, none⟩) rfl (by kernel_rfl) k2 (hK _ _ ?_); clear hK K)
                      | (guard_target = wpList _ _ _ (⟨some 99, .buildSlice _ _ _, _, _, _, _⟩ :: _) _ _; refine wpl (o := ⟨some 99, .buildSlice _ _ _, _, _, _, _⟩) rfl fun K hK => ?_; go_must (refine op_lit_agg1 hs rfl Try.underlying42 info_rrec [.int .u32 (n1 : Nat), (.string ⟨(f.body).toArray⟩)] ?_ rfl (by omega) (by omega) fun b99 w1 h => hK _ _ ?_); (first | rfl | (rw [← str_app]; rfl)); clear hs hK K; have hs := h; clear h)
                      | (guard_target = wpList _ _ _ (⟨some 100, .call _, _, _, _, _⟩ :: _) _ _; refine wpl (o := ⟨some 100, .call _, _, _, _, _⟩) rfl fun K hK => ?_; go_must (refine op_append (hs.pick (A := own (.slice A8 out.length c8) 48 out.length 2 (rrcCells out)) (by repeat (first | with_reducible exact Pick.here | with_reducible apply Pick.there))) rfl Try.underlying42 Try.underlying42 info_rrec rfl (by omega) (k := 0) rfl rfl rfl (Has.of (A := row b99 [.int .u32 (n1 : Nat), (.string ⟨(f.body).toArray⟩)] 48) (by (try dsimp only [List.set]); repeat (first | with_reducible exact List.mem_cons_self | with_reducible apply List.mem_cons_of_mem)) fun F hF => own_sliceAt F (own_exact (n := 1) (sz := 2) rfl (by omega) F hF)) (by simp [Value.oneCell']) (by omega) (by omega) fun v100 w2 h => hK _ _ ?_); clear hs hK K; have hs := h; clear h; dsimp only [List.set] at hs))
                    have e1 : rrcCells out ++ [.int .u32 (n1 : Nat), (.string ⟨(f.body).toArray⟩)] = rrcCells (out ++ [(f.body, n1)]) := (rrcCells_snoc out (f.body, n1)).symm
                    have e2 : out.length + 1 = (out ++ [(f.body, n1)]).length := by simp
                    rw [e1, e2] at hs
                    refine ⟨⟨i + 1, n1, true, f.body, out ++ [(f.body, n1)], by omega, by go_num, rfl, rfl, (by first | rfl | exact congrArg Value.string (str_app [] f.body)), HALL2.out, by first | omega | (simp; omega) | simp, by first | omega | (simp; omega) | simp, by rw [hnext.out]; exact HGO2.out, hs.pack (by repeat (first | with_reducible exact Pack.refl | with_reducible exact Pack.nil | with_reducible refine Pack.cons (by repeat (first | with_reducible exact Pick.here | with_reducible apply Pick.there)) ?_ | with_reducible apply Pack.drop))⟩, by simp only [intOf]; omega⟩
              · have HT : Box (T = (out, next)) := ⟨by rw [← HGO.out, scGo_no (r := g1) (by rw [HF.out, if_pos (by simp [C0.out, C1.out, C2.out])]) HG.out.1 c3]⟩
                cases g1 <;> cases bg
                · exact absurd rfl c3
                · go_wp2_with fail
                  have hS0 := cS _ _ hs.drew (by (try dsimp only [List.set]); repeat (first | with_reducible exact List.mem_cons_self | with_reducible apply List.mem_cons_of_mem))
                  refine wp_region_tree (rngS b5 [.slice As D.secs.length cs, .slice Aa D.row.length ca, .slice Ar D.row.length cr]) (.take 0 (.take 1 (.take 2 (.take 3 (.all [(4, .all [(5, .take 6 (.take 7 (.take 8 (.take 9 (.take 10 (DTree.done))))))])]))))) (by kernel_rfl) (by kernel_rfl) (by kernel_rfl) (fun _ _ d _ _ h => by cases d <;> exact h) hS0 ?_
                  have hs' := hs.drew
                  clear hs
                  have hs := hs'
                  clear hs'
                  have hq := fun p : Prop => class_const hS0 p
                  clear hS0
                  repeat (first
                    | (with_reducible refine tree_load_agg (o := ⟨some 41, .load _ _, _, _, _, _⟩) [.slice As D.secs.length cs, .slice Aa D.row.length ca, .slice Ar D.row.length cr] rfl rfl rfl rfl ?_ ?_ r5 ?_; (kernel_rfl); (kernel_rfl))
                    | (refine tree_take rfl (fun K hK => ?_); go_simp; with_reducible refine hK _ ?_; clear hK K))
                  refine tree_one_yes (o := _) rfl rfl (fun K hK => ?_) (cS _ _ hs (by (try dsimp only [List.set]); repeat (first | with_reducible exact List.mem_cons_self | with_reducible apply List.mem_cons_of_mem)))
                  try go_simp
                  go_at_call 51
                  refine (rat_any W _ _ hs first many n h1 h2 hnlt).mono ?_
                  clear hs
                  rintro e w5 ⟨rfl, hs⟩
                  rw [HA.out]
                  try go_simp
                  refine hK _ _ (cS _ _ hs (by (try dsimp only [List.set]); repeat (first | with_reducible exact List.mem_cons_self | with_reducible apply List.mem_cons_of_mem))) ?_
                  clear hK K
                  refine tree_one_yes (o := _) rfl rfl (fun K hK => ?_) (cS _ _ hs (by (try dsimp only [List.set]); repeat (first | with_reducible exact List.mem_cons_self | with_reducible apply List.mem_cons_of_mem)))
                  try go_simp
                  go_at_call 50
                  refine (rread_any W _ _ _ _ _ D (hs.pick (A := ref (.slice As D.secs.length cs) (.slice Aa D.row.length ca) (.slice Ar D.row.length cr) D) (by repeat (first | with_reducible exact Pick.here | with_reducible apply Pick.there))) a hr hfew).mono ?_
                  clear hs
                  rintro e w5 ⟨rfl, hs⟩
                  rw [HC.out, HP'.out]
                  try go_simp
                  refine hK _ _ (cS _ _ hs (by (try dsimp only [List.set]); repeat (first | with_reducible exact List.mem_cons_self | with_reducible apply List.mem_cons_of_mem))) ?_
                  clear hK K
                  repeat (first
                    | (with_reducible refine tree_load_agg (o := ⟨some 41, .load _ _, _, _, _, _⟩) [.slice As D.secs.length cs, .slice Aa D.row.length ca, .slice Ar D.row.length cr] rfl rfl rfl rfl ?_ ?_ r5 ?_; (kernel_rfl); (kernel_rfl))
                    | (refine tree_take rfl (fun K hK => ?_); go_simp; with_reducible refine hK _ ?_; clear hK K))
                  refine tree_done ?_
                  clear hq cS r5
                  go_wp2_with (first
                    | (go_at_call 52; go_must (refine (HPA.out _ _ hs).mono ?_); clear hs; rintro e w1 ⟨rfl, hs⟩)
                    | (guard_target = wpList _ _ _ (⟨some 20, .alloc _, _, _, _, _⟩ :: _) _ _; refine wpl (o := ⟨some 20, .alloc _, _, _, _, _⟩) rfl fun K hK => ?_; go_must (refine op_alloc hs rfl _ zrframe [.int .u32 0, .int .u32 0, .int .u8 0, .string ⟨#[]⟩] rfl fun b20 w1 h => hK _ _ ?_); clear hs hK K; have hs := h; clear h; try dsimp only [List.set] at hs)
                    | (guard_target = wpList _ _ _ (⟨none, .store _ (.tmp 20) _, _, _, _, _⟩ :: _) _ _; refine wpl (o := ⟨none, .store _ (.tmp 20) _, _, _, _, _⟩) rfl fun K hK => ?_; go_must (refine op_store_whole hs (b := b20) rfl rfl (rCells f) rfl (by simp [rCells, Value.oneCell']) (by kernel_rfl) (k := 0) rfl rfl fun w9 h => hK _ _ ?_); clear hs hK K; have hs := h; clear h; dsimp only [List.set] at hs
                       have k0 : w9.cell? ⟨b20, 0, none⟩ = some (.int .u32 (f.epoch : Nat)) := hs.cell (l := rCells f) (t := 118) (by (try dsimp only [List.set]); repeat (first | with_reducible exact List.mem_cons_self | with_reducible apply List.mem_cons_of_mem)) rfl
                       have k1 : w9.cell? ⟨b20, 1, none⟩ = some (.int .u32 (f.seq : Nat)) := hs.cell (l := rCells f) (t := 118) (by (try dsimp only [List.set]); repeat (first | with_reducible exact List.mem_cons_self | with_reducible apply List.mem_cons_of_mem)) rfl
                       have k2 : w9.cell? ⟨b20, 2, none⟩ = some (.int .u8 f.flag.toNat) := hs.cell (l := rCells f) (t := 118) (by (try dsimp only [List.set]); repeat (first | with_reducible exact List.mem_cons_self | with_reducible apply List.mem_cons_of_mem)) rfl
                       have k3 : w9.cell? ⟨b20, 3, none⟩ = some (.string ⟨f.body.toArray⟩) := hs.cell (l := rCells f) (t := 118) (by (try dsimp only [List.set]); repeat (first | with_reducible exact List.mem_cons_self | with_reducible apply List.mem_cons_of_mem)) rfl)
                    | (guard_target = wpList _ _ _ (⟨some 62, .load _ _, _, _, _, _⟩ :: _) _ _; refine wpl (o := ⟨some 62, .load _ _, _, _, _, _⟩) rfl fun K hK => op_load rfl (ad := ⟨b20, 1, none⟩) rfl (by kernel_rfl) k1 (hK _ _ ?_); clear hK K)
                    | (guard_target = wpList _ _ _ (⟨some 68, .load _ _, _, _, _, _⟩ :: _) _ _; refine wpl (o := ⟨some 68, .load _ _, _, _, _, _⟩) rfl fun K hK => op_load rfl (ad := ⟨b20, 0, none⟩) rfl (by kernel_rfl) k0 (hK _ _ ?_); clear hK K)
                    | (guard_target = wpList _ _ _ (⟨some 74, .load _ _, _, _, _, _⟩ :: _) _ _; refine wpl (o := ⟨some 74, .load _ _, _, _, _, _⟩) rfl fun K hK => op_load rfl (ad := ⟨b20, 2, none⟩) rfl (by kernel_rfl) k2 (hK _ _ ?_); clear hK K)
                    | (guard_target = wpList _ _ _ (⟨some 85, .load _ _, _, _, _, _⟩ :: _) _ _; refine wpl (o := ⟨some 85, .load _ _, _, _, _, _⟩) rfl fun K hK => op_load rfl (ad := ⟨b20, 3, none⟩) rfl (by kernel_rfl) k3 (hK _ _ ?_); clear hK K)
                    | (guard_target = wpList _ _ _ (⟨some 88, .load _ _, _, _, _, _⟩ :: _) _ _; refine wpl (o := ⟨some 88, .load _ _, _, _, _, _⟩) rfl fun K hK => op_load rfl (ad := ⟨b20, 2, none⟩) rfl (by kernel_rfl) k2 (hK _ _ ?_); clear hK K))
                  go_ret2
                  exact ⟨.slice A8 out.length c8, by rw [HT.out]; rfl, by rw [HT.out]; exact hs.pack (by repeat (first | with_reducible exact Pack.refl | with_reducible exact Pack.nil | with_reducible refine Pack.cons (by repeat (first | with_reducible exact Pick.here | with_reducible apply Pick.there)) ?_ | with_reducible apply Pack.drop))⟩
                · go_wp2_with fail
                  have hS0 := cS _ _ hs.drew (by (try dsimp only [List.set]); repeat (first | with_reducible exact List.mem_cons_self | with_reducible apply List.mem_cons_of_mem))
                  refine wp_region_tree (rngS b5 [.slice As D.secs.length cs, .slice Aa D.row.length ca, .slice Ar D.row.length cr]) (.take 0 (.take 1 (.take 2 (.take 3 (.all [(4, .all [(5, .take 6 (.take 7 (.take 8 (.take 9 (.take 10 (DTree.done))))))])]))))) (by kernel_rfl) (by kernel_rfl) (by kernel_rfl) (fun _ _ d _ _ h => by cases d <;> exact h) hS0 ?_
                  have hs' := hs.drew
                  clear hs
                  have hs := hs'
                  clear hs'
                  have hq := fun p : Prop => class_const hS0 p
                  clear hS0
                  repeat (first
                    | (with_reducible refine tree_load_agg (o := ⟨some 41, .load _ _, _, _, _, _⟩) [.slice As D.secs.length cs, .slice Aa D.row.length ca, .slice Ar D.row.length cr] rfl rfl rfl rfl ?_ ?_ r5 ?_; (kernel_rfl); (kernel_rfl))
                    | (refine tree_take rfl (fun K hK => ?_); go_simp; with_reducible refine hK _ ?_; clear hK K))
                  refine tree_one_yes (o := _) rfl rfl (fun K hK => ?_) (cS _ _ hs (by (try dsimp only [List.set]); repeat (first | with_reducible exact List.mem_cons_self | with_reducible apply List.mem_cons_of_mem)))
                  try go_simp
                  go_at_call 51
                  refine (rat_any W _ _ hs first many n h1 h2 hnlt).mono ?_
                  clear hs
                  rintro e w5 ⟨rfl, hs⟩
                  rw [HA.out]
                  try go_simp
                  refine hK _ _ (cS _ _ hs (by (try dsimp only [List.set]); repeat (first | with_reducible exact List.mem_cons_self | with_reducible apply List.mem_cons_of_mem))) ?_
                  clear hK K
                  refine tree_one_yes (o := _) rfl rfl (fun K hK => ?_) (cS _ _ hs (by (try dsimp only [List.set]); repeat (first | with_reducible exact List.mem_cons_self | with_reducible apply List.mem_cons_of_mem)))
                  try go_simp
                  go_at_call 50
                  refine (rread_any W _ _ _ _ _ D (hs.pick (A := ref (.slice As D.secs.length cs) (.slice Aa D.row.length ca) (.slice Ar D.row.length cr) D) (by repeat (first | with_reducible exact Pick.here | with_reducible apply Pick.there))) a hr hfew).mono ?_
                  clear hs
                  rintro e w5 ⟨rfl, hs⟩
                  rw [HC.out, HP'.out]
                  try go_simp
                  refine hK _ _ (cS _ _ hs (by (try dsimp only [List.set]); repeat (first | with_reducible exact List.mem_cons_self | with_reducible apply List.mem_cons_of_mem))) ?_
                  clear hK K
                  repeat (first
                    | (with_reducible refine tree_load_agg (o := ⟨some 41, .load _ _, _, _, _, _⟩) [.slice As D.secs.length cs, .slice Aa D.row.length ca, .slice Ar D.row.length cr] rfl rfl rfl rfl ?_ ?_ r5 ?_; (kernel_rfl); (kernel_rfl))
                    | (refine tree_take rfl (fun K hK => ?_); go_simp; with_reducible refine hK _ ?_; clear hK K))
                  refine tree_done ?_
                  clear hq cS r5
                  go_wp2_with (first
                    | (go_at_call 52; go_must (refine (HPA.out _ _ hs).mono ?_); clear hs; rintro e w1 ⟨rfl, hs⟩)
                    | (guard_target = wpList _ _ _ (⟨some 20, .alloc _, _, _, _, _⟩ :: _) _ _; refine wpl (o := ⟨some 20, .alloc _, _, _, _, _⟩) rfl fun K hK => ?_; go_must (refine op_alloc hs rfl _ zrframe [.int .u32 0, .int .u32 0, .int .u8 0, .string ⟨#[]⟩] rfl fun b20 w1 h => hK _ _ ?_); clear hs hK K; have hs := h; clear h; try dsimp only [List.set] at hs)
                    | (guard_target = wpList _ _ _ (⟨none, .store _ (.tmp 20) _, _, _, _, _⟩ :: _) _ _; refine wpl (o := ⟨none, .store _ (.tmp 20) _, _, _, _, _⟩) rfl fun K hK => ?_; go_must (refine op_store_whole hs (b := b20) rfl rfl (rCells f) rfl (by simp [rCells, Value.oneCell']) (by kernel_rfl) (k := 0) rfl rfl fun w9 h => hK _ _ ?_); clear hs hK K; have hs := h; clear h; dsimp only [List.set] at hs
                       have k0 : w9.cell? ⟨b20, 0, none⟩ = some (.int .u32 (f.epoch : Nat)) := hs.cell (l := rCells f) (t := 118) (by (try dsimp only [List.set]); repeat (first | with_reducible exact List.mem_cons_self | with_reducible apply List.mem_cons_of_mem)) rfl
                       have k1 : w9.cell? ⟨b20, 1, none⟩ = some (.int .u32 (f.seq : Nat)) := hs.cell (l := rCells f) (t := 118) (by (try dsimp only [List.set]); repeat (first | with_reducible exact List.mem_cons_self | with_reducible apply List.mem_cons_of_mem)) rfl
                       have k2 : w9.cell? ⟨b20, 2, none⟩ = some (.int .u8 f.flag.toNat) := hs.cell (l := rCells f) (t := 118) (by (try dsimp only [List.set]); repeat (first | with_reducible exact List.mem_cons_self | with_reducible apply List.mem_cons_of_mem)) rfl
                       have k3 : w9.cell? ⟨b20, 3, none⟩ = some (.string ⟨f.body.toArray⟩) := hs.cell (l := rCells f) (t := 118) (by (try dsimp only [List.set]); repeat (first | with_reducible exact List.mem_cons_self | with_reducible apply List.mem_cons_of_mem)) rfl)
                    | (guard_target = wpList _ _ _ (⟨some 62, .load _ _, _, _, _, _⟩ :: _) _ _; refine wpl (o := ⟨some 62, .load _ _, _, _, _, _⟩) rfl fun K hK => op_load rfl (ad := ⟨b20, 1, none⟩) rfl (by kernel_rfl) k1 (hK _ _ ?_); clear hK K)
                    | (guard_target = wpList _ _ _ (⟨some 68, .load _ _, _, _, _, _⟩ :: _) _ _; refine wpl (o := ⟨some 68, .load _ _, _, _, _, _⟩) rfl fun K hK => op_load rfl (ad := ⟨b20, 0, none⟩) rfl (by kernel_rfl) k0 (hK _ _ ?_); clear hK K)
                    | (guard_target = wpList _ _ _ (⟨some 74, .load _ _, _, _, _, _⟩ :: _) _ _; refine wpl (o := ⟨some 74, .load _ _, _, _, _, _⟩) rfl fun K hK => op_load rfl (ad := ⟨b20, 2, none⟩) rfl (by kernel_rfl) k2 (hK _ _ ?_); clear hK K)
                    | (guard_target = wpList _ _ _ (⟨some 85, .load _ _, _, _, _, _⟩ :: _) _ _; refine wpl (o := ⟨some 85, .load _ _, _, _, _, _⟩) rfl fun K hK => op_load rfl (ad := ⟨b20, 3, none⟩) rfl (by kernel_rfl) k3 (hK _ _ ?_); clear hK K)
                    | (guard_target = wpList _ _ _ (⟨some 88, .load _ _, _, _, _, _⟩ :: _) _ _; refine wpl (o := ⟨some 88, .load _ _, _, _, _, _⟩) rfl fun K hK => op_load rfl (ad := ⟨b20, 2, none⟩) rfl (by kernel_rfl) k2 (hK _ _ ?_); clear hK K))
                  go_ret2
                  exact ⟨.slice A8 out.length c8, by rw [HT.out]; rfl, by rw [HT.out]; exact hs.pack (by repeat (first | with_reducible exact Pack.refl | with_reducible exact Pack.nil | with_reducible refine Pack.cons (by repeat (first | with_reducible exact Pick.here | with_reducible apply Pick.there)) ?_ | with_reducible apply Pack.drop))⟩
                · exact absurd rfl c3
            · have e2 : ((f.epoch : Int) != (epoch : Int)) = true := by simp; omega
              have HT : Box (T = (out, next)) := ⟨by rw [← HGO.out, scGo_none (by rw [HF.out, if_neg (by simp [*])])]⟩
              clear c0 c1 c2
              go_wp2_with fail
              have hS0 := cS _ _ hs.drew (by (try dsimp only [List.set]); repeat (first | with_reducible exact List.mem_cons_self | with_reducible apply List.mem_cons_of_mem))
              refine wp_region_tree (rngS b5 [.slice As D.secs.length cs, .slice Aa D.row.length ca, .slice Ar D.row.length cr]) (.take 0 (.take 1 (.take 2 (.take 3 (.all [(4, .all [(5, .take 6 (.take 7 (.take 8 (.take 9 (.take 10 (DTree.done))))))])]))))) (by kernel_rfl) (by kernel_rfl) (by kernel_rfl) (fun _ _ d _ _ h => by cases d <;> exact h) hS0 ?_
              have hs' := hs.drew
              clear hs
              have hs := hs'
              clear hs'
              have hq := fun p : Prop => class_const hS0 p
              clear hS0
              repeat (first
                | (with_reducible refine tree_load_agg (o := ⟨some 41, .load _ _, _, _, _, _⟩) [.slice As D.secs.length cs, .slice Aa D.row.length ca, .slice Ar D.row.length cr] rfl rfl rfl rfl ?_ ?_ r5 ?_; (kernel_rfl); (kernel_rfl))
                | (refine tree_take rfl (fun K hK => ?_); go_simp; with_reducible refine hK _ ?_; clear hK K))
              refine tree_one_yes (o := _) rfl rfl (fun K hK => ?_) (cS _ _ hs (by (try dsimp only [List.set]); repeat (first | with_reducible exact List.mem_cons_self | with_reducible apply List.mem_cons_of_mem)))
              try go_simp
              go_at_call 51
              refine (rat_any W _ _ hs first many n h1 h2 hnlt).mono ?_
              clear hs
              rintro e w5 ⟨rfl, hs⟩
              rw [HA.out]
              try go_simp
              refine hK _ _ (cS _ _ hs (by (try dsimp only [List.set]); repeat (first | with_reducible exact List.mem_cons_self | with_reducible apply List.mem_cons_of_mem))) ?_
              clear hK K
              refine tree_one_yes (o := _) rfl rfl (fun K hK => ?_) (cS _ _ hs (by (try dsimp only [List.set]); repeat (first | with_reducible exact List.mem_cons_self | with_reducible apply List.mem_cons_of_mem)))
              try go_simp
              go_at_call 50
              refine (rread_any W _ _ _ _ _ D (hs.pick (A := ref (.slice As D.secs.length cs) (.slice Aa D.row.length ca) (.slice Ar D.row.length cr) D) (by repeat (first | with_reducible exact Pick.here | with_reducible apply Pick.there))) a hr hfew).mono ?_
              clear hs
              rintro e w5 ⟨rfl, hs⟩
              rw [HC.out, HP'.out]
              try go_simp
              refine hK _ _ (cS _ _ hs (by (try dsimp only [List.set]); repeat (first | with_reducible exact List.mem_cons_self | with_reducible apply List.mem_cons_of_mem))) ?_
              clear hK K
              repeat (first
                | (with_reducible refine tree_load_agg (o := ⟨some 41, .load _ _, _, _, _, _⟩) [.slice As D.secs.length cs, .slice Aa D.row.length ca, .slice Ar D.row.length cr] rfl rfl rfl rfl ?_ ?_ r5 ?_; (kernel_rfl); (kernel_rfl))
                | (refine tree_take rfl (fun K hK => ?_); go_simp; with_reducible refine hK _ ?_; clear hK K))
              refine tree_done ?_
              clear hq cS r5
              go_wp2_with (first
                | (go_at_call 52; go_must (refine (HPA.out _ _ hs).mono ?_); clear hs; rintro e w1 ⟨rfl, hs⟩)
                | (guard_target = wpList _ _ _ (⟨some 20, .alloc _, _, _, _, _⟩ :: _) _ _; refine wpl (o := ⟨some 20, .alloc _, _, _, _, _⟩) rfl fun K hK => ?_; go_must (refine op_alloc hs rfl _ zrframe [.int .u32 0, .int .u32 0, .int .u8 0, .string ⟨#[]⟩] rfl fun b20 w1 h => hK _ _ ?_); clear hs hK K; have hs := h; clear h; try dsimp only [List.set] at hs)
                | (guard_target = wpList _ _ _ (⟨none, .store _ (.tmp 20) _, _, _, _, _⟩ :: _) _ _; refine wpl (o := ⟨none, .store _ (.tmp 20) _, _, _, _, _⟩) rfl fun K hK => ?_; go_must (refine op_store_whole hs (b := b20) rfl rfl (rCells f) rfl (by simp [rCells, Value.oneCell']) (by kernel_rfl) (k := 0) rfl rfl fun w9 h => hK _ _ ?_); clear hs hK K; have hs := h; clear h; dsimp only [List.set] at hs
                   have k0 : w9.cell? ⟨b20, 0, none⟩ = some (.int .u32 (f.epoch : Nat)) := hs.cell (l := rCells f) (t := 118) (by (try dsimp only [List.set]); repeat (first | with_reducible exact List.mem_cons_self | with_reducible apply List.mem_cons_of_mem)) rfl
                   have k1 : w9.cell? ⟨b20, 1, none⟩ = some (.int .u32 (f.seq : Nat)) := hs.cell (l := rCells f) (t := 118) (by (try dsimp only [List.set]); repeat (first | with_reducible exact List.mem_cons_self | with_reducible apply List.mem_cons_of_mem)) rfl
                   have k2 : w9.cell? ⟨b20, 2, none⟩ = some (.int .u8 f.flag.toNat) := hs.cell (l := rCells f) (t := 118) (by (try dsimp only [List.set]); repeat (first | with_reducible exact List.mem_cons_self | with_reducible apply List.mem_cons_of_mem)) rfl
                   have k3 : w9.cell? ⟨b20, 3, none⟩ = some (.string ⟨f.body.toArray⟩) := hs.cell (l := rCells f) (t := 118) (by (try dsimp only [List.set]); repeat (first | with_reducible exact List.mem_cons_self | with_reducible apply List.mem_cons_of_mem)) rfl)
                | (guard_target = wpList _ _ _ (⟨some 62, .load _ _, _, _, _, _⟩ :: _) _ _; refine wpl (o := ⟨some 62, .load _ _, _, _, _, _⟩) rfl fun K hK => op_load rfl (ad := ⟨b20, 1, none⟩) rfl (by kernel_rfl) k1 (hK _ _ ?_); clear hK K)
                | (guard_target = wpList _ _ _ (⟨some 68, .load _ _, _, _, _, _⟩ :: _) _ _; refine wpl (o := ⟨some 68, .load _ _, _, _, _, _⟩) rfl fun K hK => op_load rfl (ad := ⟨b20, 0, none⟩) rfl (by kernel_rfl) k0 (hK _ _ ?_); clear hK K)
                | (guard_target = wpList _ _ _ (⟨some 74, .load _ _, _, _, _, _⟩ :: _) _ _; refine wpl (o := ⟨some 74, .load _ _, _, _, _, _⟩) rfl fun K hK => op_load rfl (ad := ⟨b20, 2, none⟩) rfl (by kernel_rfl) k2 (hK _ _ ?_); clear hK K)
                | (guard_target = wpList _ _ _ (⟨some 85, .load _ _, _, _, _, _⟩ :: _) _ _; refine wpl (o := ⟨some 85, .load _ _, _, _, _, _⟩) rfl fun K hK => op_load rfl (ad := ⟨b20, 3, none⟩) rfl (by kernel_rfl) k3 (hK _ _ ?_); clear hK K)
                | (guard_target = wpList _ _ _ (⟨some 88, .load _ _, _, _, _, _⟩ :: _) _ _; refine wpl (o := ⟨some 88, .load _ _, _, _, _, _⟩) rfl fun K hK => op_load rfl (ad := ⟨b20, 2, none⟩) rfl (by kernel_rfl) k2 (hK _ _ ?_); clear hK K))
              go_ret2
              exact ⟨.slice A8 out.length c8, by rw [HT.out]; rfl, by rw [HT.out]; exact hs.pack (by repeat (first | with_reducible exact Pack.refl | with_reducible exact Pack.nil | with_reducible refine Pack.cons (by repeat (first | with_reducible exact Pick.here | with_reducible apply Pick.there)) ?_ | with_reducible apply Pack.drop))⟩
          · have e1 : ((f.seq : Int) != (n : Int)) = true := by simp; omega
            have HT : Box (T = (out, next)) := ⟨by rw [← HGO.out, scGo_none (by rw [HF.out, if_neg (by simp [*])])]⟩
            clear c0 c1
            go_wp2_with fail
            have hS0 := cS _ _ hs.drew (by (try dsimp only [List.set]); repeat (first | with_reducible exact List.mem_cons_self | with_reducible apply List.mem_cons_of_mem))
            refine wp_region_tree (rngS b5 [.slice As D.secs.length cs, .slice Aa D.row.length ca, .slice Ar D.row.length cr]) (.take 0 (.take 1 (.take 2 (.take 3 (.all [(4, .all [(5, .take 6 (.take 7 (.take 8 (.take 9 (.take 10 (DTree.done))))))])]))))) (by kernel_rfl) (by kernel_rfl) (by kernel_rfl) (fun _ _ d _ _ h => by cases d <;> exact h) hS0 ?_
            have hs' := hs.drew
            clear hs
            have hs := hs'
            clear hs'
            have hq := fun p : Prop => class_const hS0 p
            clear hS0
            repeat (first
              | (with_reducible refine tree_load_agg (o := ⟨some 41, .load _ _, _, _, _, _⟩) [.slice As D.secs.length cs, .slice Aa D.row.length ca, .slice Ar D.row.length cr] rfl rfl rfl rfl ?_ ?_ r5 ?_; (kernel_rfl); (kernel_rfl))
              | (refine tree_take rfl (fun K hK => ?_); go_simp; with_reducible refine hK _ ?_; clear hK K))
            refine tree_one_yes (o := _) rfl rfl (fun K hK => ?_) (cS _ _ hs (by (try dsimp only [List.set]); repeat (first | with_reducible exact List.mem_cons_self | with_reducible apply List.mem_cons_of_mem)))
            try go_simp
            go_at_call 51
            refine (rat_any W _ _ hs first many n h1 h2 hnlt).mono ?_
            clear hs
            rintro e w5 ⟨rfl, hs⟩
            rw [HA.out]
            try go_simp
            refine hK _ _ (cS _ _ hs (by (try dsimp only [List.set]); repeat (first | with_reducible exact List.mem_cons_self | with_reducible apply List.mem_cons_of_mem))) ?_
            clear hK K
            refine tree_one_yes (o := _) rfl rfl (fun K hK => ?_) (cS _ _ hs (by (try dsimp only [List.set]); repeat (first | with_reducible exact List.mem_cons_self | with_reducible apply List.mem_cons_of_mem)))
            try go_simp
            go_at_call 50
            refine (rread_any W _ _ _ _ _ D (hs.pick (A := ref (.slice As D.secs.length cs) (.slice Aa D.row.length ca) (.slice Ar D.row.length cr) D) (by repeat (first | with_reducible exact Pick.here | with_reducible apply Pick.there))) a hr hfew).mono ?_
            clear hs
            rintro e w5 ⟨rfl, hs⟩
            rw [HC.out, HP'.out]
            try go_simp
            refine hK _ _ (cS _ _ hs (by (try dsimp only [List.set]); repeat (first | with_reducible exact List.mem_cons_self | with_reducible apply List.mem_cons_of_mem))) ?_
            clear hK K
            repeat (first
              | (with_reducible refine tree_load_agg (o := ⟨some 41, .load _ _, _, _, _, _⟩) [.slice As D.secs.length cs, .slice Aa D.row.length ca, .slice Ar D.row.length cr] rfl rfl rfl rfl ?_ ?_ r5 ?_; (kernel_rfl); (kernel_rfl))
              | (refine tree_take rfl (fun K hK => ?_); go_simp; with_reducible refine hK _ ?_; clear hK K))
            refine tree_done ?_
            clear hq cS r5
            go_wp2_with (first
              | (go_at_call 52; go_must (refine (HPA.out _ _ hs).mono ?_); clear hs; rintro e w1 ⟨rfl, hs⟩)
              | (guard_target = wpList _ _ _ (⟨some 20, .alloc _, _, _, _, _⟩ :: _) _ _; refine wpl (o := ⟨some 20, .alloc _, _, _, _, _⟩) rfl fun K hK => ?_; go_must (refine op_alloc hs rfl _ zrframe [.int .u32 0, .int .u32 0, .int .u8 0, .string ⟨#[]⟩] rfl fun b20 w1 h => hK _ _ ?_); clear hs hK K; have hs := h; clear h; try dsimp only [List.set] at hs)
              | (guard_target = wpList _ _ _ (⟨none, .store _ (.tmp 20) _, _, _, _, _⟩ :: _) _ _; refine wpl (o := ⟨none, .store _ (.tmp 20) _, _, _, _, _⟩) rfl fun K hK => ?_; go_must (refine op_store_whole hs (b := b20) rfl rfl (rCells f) rfl (by simp [rCells, Value.oneCell']) (by kernel_rfl) (k := 0) rfl rfl fun w9 h => hK _ _ ?_); clear hs hK K; have hs := h; clear h; dsimp only [List.set] at hs
                 have k0 : w9.cell? ⟨b20, 0, none⟩ = some (.int .u32 (f.epoch : Nat)) := hs.cell (l := rCells f) (t := 118) (by (try dsimp only [List.set]); repeat (first | with_reducible exact List.mem_cons_self | with_reducible apply List.mem_cons_of_mem)) rfl
                 have k1 : w9.cell? ⟨b20, 1, none⟩ = some (.int .u32 (f.seq : Nat)) := hs.cell (l := rCells f) (t := 118) (by (try dsimp only [List.set]); repeat (first | with_reducible exact List.mem_cons_self | with_reducible apply List.mem_cons_of_mem)) rfl
                 have k2 : w9.cell? ⟨b20, 2, none⟩ = some (.int .u8 f.flag.toNat) := hs.cell (l := rCells f) (t := 118) (by (try dsimp only [List.set]); repeat (first | with_reducible exact List.mem_cons_self | with_reducible apply List.mem_cons_of_mem)) rfl
                 have k3 : w9.cell? ⟨b20, 3, none⟩ = some (.string ⟨f.body.toArray⟩) := hs.cell (l := rCells f) (t := 118) (by (try dsimp only [List.set]); repeat (first | with_reducible exact List.mem_cons_self | with_reducible apply List.mem_cons_of_mem)) rfl)
              | (guard_target = wpList _ _ _ (⟨some 62, .load _ _, _, _, _, _⟩ :: _) _ _; refine wpl (o := ⟨some 62, .load _ _, _, _, _, _⟩) rfl fun K hK => op_load rfl (ad := ⟨b20, 1, none⟩) rfl (by kernel_rfl) k1 (hK _ _ ?_); clear hK K)
              | (guard_target = wpList _ _ _ (⟨some 68, .load _ _, _, _, _, _⟩ :: _) _ _; refine wpl (o := ⟨some 68, .load _ _, _, _, _, _⟩) rfl fun K hK => op_load rfl (ad := ⟨b20, 0, none⟩) rfl (by kernel_rfl) k0 (hK _ _ ?_); clear hK K)
              | (guard_target = wpList _ _ _ (⟨some 74, .load _ _, _, _, _, _⟩ :: _) _ _; refine wpl (o := ⟨some 74, .load _ _, _, _, _, _⟩) rfl fun K hK => op_load rfl (ad := ⟨b20, 2, none⟩) rfl (by kernel_rfl) k2 (hK _ _ ?_); clear hK K)
              | (guard_target = wpList _ _ _ (⟨some 85, .load _ _, _, _, _, _⟩ :: _) _ _; refine wpl (o := ⟨some 85, .load _ _, _, _, _, _⟩) rfl fun K hK => op_load rfl (ad := ⟨b20, 3, none⟩) rfl (by kernel_rfl) k3 (hK _ _ ?_); clear hK K)
              | (guard_target = wpList _ _ _ (⟨some 88, .load _ _, _, _, _, _⟩ :: _) _ _; refine wpl (o := ⟨some 88, .load _ _, _, _, _, _⟩) rfl fun K hK => op_load rfl (ad := ⟨b20, 2, none⟩) rfl (by kernel_rfl) k2 (hK _ _ ?_); clear hK K))
            go_ret2
            exact ⟨.slice A8 out.length c8, by rw [HT.out]; rfl, by rw [HT.out]; exact hs.pack (by repeat (first | with_reducible exact Pack.refl | with_reducible exact Pack.nil | with_reducible refine Pack.cons (by repeat (first | with_reducible exact Pick.here | with_reducible apply Pick.there)) ?_ | with_reducible apply Pack.drop))⟩
        · have e0 : ((code : Int) != 0) = true := by simp; omega
          have HT : Box (T = (out, next)) := ⟨by rw [← HGO.out, scGo_none (by rw [HF.out, if_neg (by simp [*])])]⟩
          clear c0
          go_wp2_with fail
          have hS0 := cS _ _ hs.drew (by (try dsimp only [List.set]); repeat (first | with_reducible exact List.mem_cons_self | with_reducible apply List.mem_cons_of_mem))
          refine wp_region_tree (rngS b5 [.slice As D.secs.length cs, .slice Aa D.row.length ca, .slice Ar D.row.length cr]) (.take 0 (.take 1 (.take 2 (.take 3 (.all [(4, .all [(5, .take 6 (.take 7 (.take 8 (.take 9 (.take 10 (DTree.done))))))])]))))) (by kernel_rfl) (by kernel_rfl) (by kernel_rfl) (fun _ _ d _ _ h => by cases d <;> exact h) hS0 ?_
          have hs' := hs.drew
          clear hs
          have hs := hs'
          clear hs'
          have hq := fun p : Prop => class_const hS0 p
          clear hS0
          repeat (first
            | (with_reducible refine tree_load_agg (o := ⟨some 41, .load _ _, _, _, _, _⟩) [.slice As D.secs.length cs, .slice Aa D.row.length ca, .slice Ar D.row.length cr] rfl rfl rfl rfl ?_ ?_ r5 ?_; (kernel_rfl); (kernel_rfl))
            | (refine tree_take rfl (fun K hK => ?_); go_simp; with_reducible refine hK _ ?_; clear hK K))
          refine tree_one_yes (o := _) rfl rfl (fun K hK => ?_) (cS _ _ hs (by (try dsimp only [List.set]); repeat (first | with_reducible exact List.mem_cons_self | with_reducible apply List.mem_cons_of_mem)))
          try go_simp
          go_at_call 51
          refine (rat_any W _ _ hs first many n h1 h2 hnlt).mono ?_
          clear hs
          rintro e w5 ⟨rfl, hs⟩
          rw [HA.out]
          try go_simp
          refine hK _ _ (cS _ _ hs (by (try dsimp only [List.set]); repeat (first | with_reducible exact List.mem_cons_self | with_reducible apply List.mem_cons_of_mem))) ?_
          clear hK K
          refine tree_one_yes (o := _) rfl rfl (fun K hK => ?_) (cS _ _ hs (by (try dsimp only [List.set]); repeat (first | with_reducible exact List.mem_cons_self | with_reducible apply List.mem_cons_of_mem)))
          try go_simp
          go_at_call 50
          refine (rread_any W _ _ _ _ _ D (hs.pick (A := ref (.slice As D.secs.length cs) (.slice Aa D.row.length ca) (.slice Ar D.row.length cr) D) (by repeat (first | with_reducible exact Pick.here | with_reducible apply Pick.there))) a hr hfew).mono ?_
          clear hs
          rintro e w5 ⟨rfl, hs⟩
          rw [HC.out, HP'.out]
          try go_simp
          refine hK _ _ (cS _ _ hs (by (try dsimp only [List.set]); repeat (first | with_reducible exact List.mem_cons_self | with_reducible apply List.mem_cons_of_mem))) ?_
          clear hK K
          repeat (first
            | (with_reducible refine tree_load_agg (o := ⟨some 41, .load _ _, _, _, _, _⟩) [.slice As D.secs.length cs, .slice Aa D.row.length ca, .slice Ar D.row.length cr] rfl rfl rfl rfl ?_ ?_ r5 ?_; (kernel_rfl); (kernel_rfl))
            | (refine tree_take rfl (fun K hK => ?_); go_simp; with_reducible refine hK _ ?_; clear hK K))
          refine tree_done ?_
          clear hq cS r5
          go_wp2_with (first
            | (go_at_call 52; go_must (refine (HPA.out _ _ hs).mono ?_); clear hs; rintro e w1 ⟨rfl, hs⟩)
            | (guard_target = wpList _ _ _ (⟨some 20, .alloc _, _, _, _, _⟩ :: _) _ _; refine wpl (o := ⟨some 20, .alloc _, _, _, _, _⟩) rfl fun K hK => ?_; go_must (refine op_alloc hs rfl _ zrframe [.int .u32 0, .int .u32 0, .int .u8 0, .string ⟨#[]⟩] rfl fun b20 w1 h => hK _ _ ?_); clear hs hK K; have hs := h; clear h; try dsimp only [List.set] at hs)
            | (guard_target = wpList _ _ _ (⟨none, .store _ (.tmp 20) _, _, _, _, _⟩ :: _) _ _; refine wpl (o := ⟨none, .store _ (.tmp 20) _, _, _, _, _⟩) rfl fun K hK => ?_; go_must (refine op_store_whole hs (b := b20) rfl rfl (rCells f) rfl (by simp [rCells, Value.oneCell']) (by kernel_rfl) (k := 0) rfl rfl fun w9 h => hK _ _ ?_); clear hs hK K; have hs := h; clear h; dsimp only [List.set] at hs
               have k0 : w9.cell? ⟨b20, 0, none⟩ = some (.int .u32 (f.epoch : Nat)) := hs.cell (l := rCells f) (t := 118) (by (try dsimp only [List.set]); repeat (first | with_reducible exact List.mem_cons_self | with_reducible apply List.mem_cons_of_mem)) rfl
               have k1 : w9.cell? ⟨b20, 1, none⟩ = some (.int .u32 (f.seq : Nat)) := hs.cell (l := rCells f) (t := 118) (by (try dsimp only [List.set]); repeat (first | with_reducible exact List.mem_cons_self | with_reducible apply List.mem_cons_of_mem)) rfl
               have k2 : w9.cell? ⟨b20, 2, none⟩ = some (.int .u8 f.flag.toNat) := hs.cell (l := rCells f) (t := 118) (by (try dsimp only [List.set]); repeat (first | with_reducible exact List.mem_cons_self | with_reducible apply List.mem_cons_of_mem)) rfl
               have k3 : w9.cell? ⟨b20, 3, none⟩ = some (.string ⟨f.body.toArray⟩) := hs.cell (l := rCells f) (t := 118) (by (try dsimp only [List.set]); repeat (first | with_reducible exact List.mem_cons_self | with_reducible apply List.mem_cons_of_mem)) rfl)
            | (guard_target = wpList _ _ _ (⟨some 62, .load _ _, _, _, _, _⟩ :: _) _ _; refine wpl (o := ⟨some 62, .load _ _, _, _, _, _⟩) rfl fun K hK => op_load rfl (ad := ⟨b20, 1, none⟩) rfl (by kernel_rfl) k1 (hK _ _ ?_); clear hK K)
            | (guard_target = wpList _ _ _ (⟨some 68, .load _ _, _, _, _, _⟩ :: _) _ _; refine wpl (o := ⟨some 68, .load _ _, _, _, _, _⟩) rfl fun K hK => op_load rfl (ad := ⟨b20, 0, none⟩) rfl (by kernel_rfl) k0 (hK _ _ ?_); clear hK K)
            | (guard_target = wpList _ _ _ (⟨some 74, .load _ _, _, _, _, _⟩ :: _) _ _; refine wpl (o := ⟨some 74, .load _ _, _, _, _, _⟩) rfl fun K hK => op_load rfl (ad := ⟨b20, 2, none⟩) rfl (by kernel_rfl) k2 (hK _ _ ?_); clear hK K)
            | (guard_target = wpList _ _ _ (⟨some 85, .load _ _, _, _, _, _⟩ :: _) _ _; refine wpl (o := ⟨some 85, .load _ _, _, _, _, _⟩) rfl fun K hK => op_load rfl (ad := ⟨b20, 3, none⟩) rfl (by kernel_rfl) k3 (hK _ _ ?_); clear hK K)
            | (guard_target = wpList _ _ _ (⟨some 88, .load _ _, _, _, _, _⟩ :: _) _ _; refine wpl (o := ⟨some 88, .load _ _, _, _, _, _⟩) rfl fun K hK => op_load rfl (ad := ⟨b20, 2, none⟩) rfl (by kernel_rfl) k2 (hK _ _ ?_); clear hK K))
          go_ret2
          exact ⟨.slice A8 out.length c8, by rw [HT.out]; rfl, by rw [HT.out]; exact hs.pack (by repeat (first | with_reducible exact Pack.refl | with_reducible exact Pack.nil | with_reducible refine Pack.cons (by repeat (first | with_reducible exact Pick.here | with_reducible apply Pick.there)) ?_ | with_reducible apply Pack.drop))⟩
    · have hinI : ¬ (i : Int) < (many : Int) := by omega
      have HT : Box (T = (out, next)) := ⟨by rw [← hgo, show many - i = 0 by omega]; rfl⟩
      clear hgo
      go_wp2_with fail
      go_ret2
      exact ⟨.slice A8 out.length c8, by rw [HT.out]; rfl, by rw [HT.out]; exact hs.pack (by repeat (first | with_reducible exact Pack.refl | with_reducible exact Pack.nil | with_reducible refine Pack.cons (by repeat (first | with_reducible exact Pick.here | with_reducible apply Pick.there)) ?_ | with_reducible apply Pack.drop))⟩
end Go.Proofs.Ytimknlabhhopcaa
