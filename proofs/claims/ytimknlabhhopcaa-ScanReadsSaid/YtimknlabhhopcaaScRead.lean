/- The contract of scan.Read. -/
import Derived.Test.YtimknlabhhopcaaScAt
import Derived.Test.YtimknlabhhopcaaFrames
set_option linter.unusedVariables false
set_option linter.unusedSimpArgs false
namespace Go.Proofs.Ytimknlabhhopcaa
open Go.RowKit
theorem u8_and' (a k : UInt8) : bits .and .u8 (a.toNat : Int) (k.toNat : Int) = ((a &&& k).toNat : Int) := by
  have h : ∀ c : BitVec 8, BitVec.ofInt 8 (c.toNat : Int) = c := fun c => by simp
  have hb := (a.toBitVec &&& k.toBitVec).isLt
  show IntKind.u8.wrap (((BitVec.ofInt 8 (a.toBitVec.toNat : Int)) &&& (BitVec.ofInt 8 (k.toBitVec.toNat : Int))).toNat : Int) = ((a.toBitVec &&& k.toBitVec).toNat : Int)
  rw [h, h, IntKind.wrap_u8]
  omega
theorem flag_bit' (a k : UInt8) : ∃ r : Bool, (bits .and .u8 (a.toNat : Int) (k.toNat : Int) != 0) = r ∧ (a &&& k != 0) = r := by
  refine ⟨_, rfl, ?_⟩
  rw [u8_and']
  by_cases h : a &&& k = 0
  · simp [h]
  · have h2 : ¬ (a &&& k).toNat = 0 := fun e => h (UInt8.toNat_inj.1 e)
    have e1 : (((a &&& k).toNat : Int) != 0) = true := by rw [bne_iff_ne]; omega
    have e2 : (a &&& k != 0) = true := by rw [bne_iff_ne]; exact h
    rw [e1, e2]
abbrev Rcd := List UInt8 × Nat
/-- What is found, frame by frame. -/
def scGo (fr : Nat → Option Fr) : (fuel n next : Nat) → Bool → List UInt8 → List Rcd → List Rcd × Nat
  | 0, _, next, _, _, out => (out, next)
  | fuel + 1, n, next, bg, body, out =>
    match fr n with
    | none => (out, next)
    | some f =>
      if (f.flag &&& 1 != 0) = bg then
        if (f.flag &&& 2 != 0) = true then scGo fr fuel ((n + 1) % 4294967296) ((n + 1) % 4294967296) true ((if bg then [] else body) ++ f.body) (out ++ [((if bg then [] else body) ++ f.body, (n + 1) % 4294967296)])
        else scGo fr fuel ((n + 1) % 4294967296) next false ((if bg then [] else body) ++ f.body) out
      else (out, next)
theorem scGo_none {fr : Nat → Option Fr} {k n next : Nat} {bg : Bool} {body : List UInt8} {out : List Rcd} (h : fr n = none) : scGo fr (k + 1) n next bg body out = (out, next) := by
  rw [scGo, h]
theorem scGo_no {fr : Nat → Option Fr} {k n next : Nat} {bg : Bool} {body : List UInt8} {out : List Rcd} {f : Fr} {r : Bool} (h : fr n = some f) (h1 : (f.flag &&& 1 != 0) = r) (h2 : r ≠ bg) : scGo fr (k + 1) n next bg body out = (out, next) := by
  rw [scGo, h]; simp only [h1, if_neg h2]
theorem scGo_yes {fr : Nat → Option Fr} {k n next : Nat} {bg : Bool} {body : List UInt8} {out : List Rcd} {f : Fr} (h : fr n = some f) (h1 : (f.flag &&& 1 != 0) = bg) (h2 : (f.flag &&& 2 != 0) = true) : scGo fr (k + 1) n next bg body out = scGo fr k ((n + 1) % 4294967296) ((n + 1) % 4294967296) true ((if bg then [] else body) ++ f.body) (out ++ [((if bg then [] else body) ++ f.body, (n + 1) % 4294967296)]) := by
  rw [scGo, h]; simp only [h1, h2, if_true]
theorem scGo_go {fr : Nat → Option Fr} {k n next : Nat} {bg : Bool} {body : List UInt8} {out : List Rcd} {f : Fr} (h : fr n = some f) (h1 : (f.flag &&& 1 != 0) = bg) (h2 : (f.flag &&& 2 != 0) = false) : scGo fr (k + 1) n next bg body out = scGo fr k ((n + 1) % 4294967296) next false ((if bg then [] else body) ++ f.body) out := by
  rw [scGo, h]; simp only [h1, h2, if_true, if_false, Bool.false_eq_true]
/-! Records in the heap. -/
def rcCells (l : List (Rcd × Value)) : List Value := l.flatMap fun x => [.int .u32 (x.1.2 : Nat), x.2]
def rcBods (l : List (Rcd × Value)) : HP := st (l.map fun x => bytesH x.2 x.1.1)
theorem rcCells_snoc (l : List (Rcd × Value)) (x : Rcd × Value) : rcCells (l ++ [x]) = rcCells l ++ [.int .u32 (x.1.2 : Nat), x.2] := by simp [rcCells]
theorem rcCells_get (l : List (Rcd × Value)) (i : Nat) (h : i < l.length) (j : Nat) (hj : j < 2) : (rcCells l)[i * 2 + j]? = [Value.int .u32 (l[i].1.2 : Nat), l[i].2][j]? := by
  induction l generalizing i with
  | nil => simp at h
  | cons x l ih =>
    simp only [rcCells, List.flatMap_cons]
    cases i with
    | zero => rw [List.getElem?_append_left (by simp; omega)]; simp
    | succ i =>
      rw [List.getElem?_append_right (by simp; omega)]
      have e : (i + 1) * 2 + j - [Value.int .u32 (x.1.2 : Nat), x.2].length = i * 2 + j := by simp; omega
      rw [e]
      exact ih i (by simpa using h)
theorem Sat.rcBods_snoc {W w : World} {L : List HP} {v : Value} {x : Rcd} {l : List (Rcd × Value)} (h : Sat W w (bytesH v x.1 :: rcBods l :: L)) : Sat W w (rcBods (l ++ [(x, v)]) :: L) := by
  refine Sat.shut (L' := [bytesH v x.1, rcBods l]) h fun F hF => ?_
  obtain ⟨F1, F2, hd, rfl, h1, F3, F4, hd2, rfl, h3, h4⟩ := hF
  cases h4
  unfold rcBods
  rw [List.map_append]
  have hd' := PH.dj_or.1 hd
  rw [PH.or_emp]
  exact st_append.2 ⟨F3, F1, PH.dj_comm (by have := hd'.1; exact this), by rw [PH.or_comm]; exact hd'.1, h3, F1, PH.emp, PH.dj_emp _, (PH.or_emp _).symm, h1, rfl⟩
theorem Sat.rcBods_nil {W w : World} {L : List HP} (h : Sat W w L) : Sat W w (rcBods [] :: L) := by
  obtain ⟨h1, h2, h3, F, hF, hw⟩ := h
  exact ⟨h1, h2, h3, F, ⟨PH.emp, F, PH.dj_comm (PH.dj_emp F), rfl, rfl, hF⟩, hw⟩
theorem rcBods_has {l : List (Rcd × Value)} {i : Nat} (h : i < l.length) : ∀ F, rcBods l F → bytesAt l[i].2 l[i].1.1 F := fun F hF => by
  have hm : bytesH l[i].2 l[i].1.1 ∈ l.map fun x => bytesH x.2 x.1.1 := List.mem_map.2 ⟨l[i], List.getElem_mem h, rfl⟩
  obtain ⟨G, hG, hle⟩ := st_mem hm hF
  exact bytesAt_mono _ _ hle hG
theorem info_rec : (Try.prog.info? 46).map (fun i => (i.zero, i.size, i.bytes)) = some (some (.agg #[Value.int .u32 0, .slice none 0 0]), 2, 32) := by kernel_rfl
def scanPost (T : List Rcd × Nat) (W : World) (L : List HP) (e : Ending) (w' : World) : Prop := ∃ (v : Value) (out : List (Rcd × Value)), e = .returned (.tuple #[v, .int .u32 (T.2 : Nat)]) ∧ out.map (·.1) = T.1 ∧ Sat W w' (own v 46 out.length 2 (rcCells out) :: rcBods out :: L)
set_option maxRecDepth 100000 in
set_option maxHeartbeats 4000000 in
theorem scan_none (W w : World) (L : List HP) (hs : Sat W w L) (first many : Int) (epoch from_ : Nat) (p : Value) (hno : first < 0 ∨ many < 1) :
    Calls Try.prog 20 #[p, .agg (place first many epoch).toArray, .int .u32 (from_ : Nat)] w (scanPost ([], from_) W L) := by
  have fin : ∀ w', Sat W w' L → scanPost ([], from_) W L (.returned (.tuple #[.slice none 0 0, .int .u32 (from_ : Nat)])) w' := fun w' h => ⟨_, [], rfl, rfl, (h.rcBods_nil).addNil none 46 2⟩
  by_cases h0 : first < 0
  · clear hno
    go_enter Try.func20, Try.ntmps20
    go_wp2_with (first
      | (guard_target = wpList _ _ _ (⟨some 4, .box _ _, _, _, _, _⟩ :: _) _ _; refine wpl (o := ⟨some 4, .box _ _, _, _, _, _⟩) rfl fun K hK => ?_; go_must (refine op_box hs rfl _ rfl (place first many epoch) rfl fun b4 w1 h => hK _ _ ?_); clear hs hK K; have hs := h; clear h; try dsimp only [List.set] at hs))
    go_step3
    go_wp2_with (first
      | (guard_target = wpList _ _ _ (⟨some 17, .load _ _, _, _, _, _⟩ :: _) _ _; refine wpl (o := ⟨some 17, .load _ _, _, _, _, _⟩) rfl fun K hK => op_load rfl (ad := ⟨b4, 0, none⟩) rfl (by kernel_rfl) (hs.cell m0 rfl) (hK _ _ ?_); clear hK K))
    (try rw [Exit.noGoto_ret])
    go_ret2
    exact fin _ hs.tail
  · have hm : many < 1 := by omega
    clear hno
    go_enter Try.func20, Try.ntmps20
    go_wp2_with (first
      | (guard_target = wpList _ _ _ (⟨some 4, .box _ _, _, _, _, _⟩ :: _) _ _; refine wpl (o := ⟨some 4, .box _ _, _, _, _, _⟩) rfl fun K hK => ?_; go_must (refine op_box hs rfl _ rfl (place first many epoch) rfl fun b4 w1 h => hK _ _ ?_); clear hs hK K; have hs := h; clear h
         have k21 : w1.cell? ⟨b4, 1, none⟩ = some (.int .i64 many) := hs.cell m0 rfl))
    go_step3
    go_wp2_with (first
      | (guard_target = wpList _ _ _ (⟨some 17, .load _ _, _, _, _, _⟩ :: _) _ _; refine wpl (o := ⟨some 17, .load _ _, _, _, _, _⟩) rfl fun K hK => op_load rfl (ad := ⟨b4, 0, none⟩) rfl (by kernel_rfl) (hs.cell m0 rfl) (hK _ _ ?_); clear hK K)
      | (guard_target = wpList _ _ _ (⟨some 21, .load _ _, _, _, _, _⟩ :: _) _ _; refine wpl (o := ⟨some 21, .load _ _, _, _, _, _⟩) rfl fun K hK => op_load rfl (ad := ⟨b4, 1, none⟩) rfl (by kernel_rfl) k21 (hK _ _ ?_); clear hK K))
    (try rw [Exit.noGoto_ret])
    go_ret2
    exact fin _ hs.tail
set_option maxRecDepth 100000 in
set_option maxHeartbeats 16000000 in
theorem scan_spec (W w : World) (L : List HP) (b : Nat) (D : Dk) (hs : Sat W w (disk b D :: L)) (first many epoch from_ : Nat) (h1 : 1 ≤ many) (hfi : first < 9223372036854775808) (h2 : many < 9223372036854775808) (hfr : from_ < 4294967296) (hr : D.row.length ≤ 1000000)
    (K : Nat) (hK : K ≤ 1000) (hKb : ∀ i, i ≤ many → (∀ j, j < i → (scF D first many epoch ((from_ + j) % 4294967296)).isSome = true) → i ≤ K) (T : List Rcd × Nat) (hT : scGo (scF D first many epoch) many from_ from_ true [] [] = T) :
    Calls Try.prog 20 #[.pointer (some ⟨b, 0, none⟩), .agg (place first many epoch).toArray, .int .u32 (from_ : Nat)] w (scanPost T W (disk b D :: L)) := by
  have okD := hs.disk_open.1
  have h1I : ¬ (many : Int) < 1 := by omega
  have hfI : ¬ (first : Int) < 0 := by omega
  have HKB := Box.mk hKb
  have HT0 := Box.mk hT
  clear hKb hT
  go_enter Try.func20, Try.ntmps20
  go_wp2_with (first
    | (guard_target = wpList _ _ _ (⟨some 4, .box _ _, _, _, _, _⟩ :: _) _ _; refine wpl (o := ⟨some 4, .box _ _, _, _, _, _⟩) rfl fun K hK => ?_; go_must (refine op_box hs rfl _ rfl (place first many epoch) rfl fun b4 w1 h => hK _ _ ?_); clear hs hK K; have hs := h; clear h
       have k21 : w1.cell? ⟨b4, 1, none⟩ = some (.int .i64 (many : Nat)) := hs.cell m0 rfl))
  go_step3
  go_wp2_with (first
    | (guard_target = wpList _ _ _ (⟨some 17, .load _ _, _, _, _, _⟩ :: _) _ _; refine wpl (o := ⟨some 17, .load _ _, _, _, _, _⟩) rfl fun K hK => op_load rfl (ad := ⟨b4, 0, none⟩) rfl (by kernel_rfl) (hs.cell m0 rfl) (hK _ _ ?_); clear hK K)
    | (guard_target = wpList _ _ _ (⟨some 21, .load _ _, _, _, _, _⟩ :: _) _ _; refine wpl (o := ⟨some 21, .load _ _, _, _, _, _⟩) rfl fun K hK => op_load rfl (ad := ⟨b4, 1, none⟩) rfl (by kernel_rfl) k21 (hK _ _ ?_); clear hK K))
  go_step3
  go_wp2_with (first
    | (guard_target = wpList _ _ _ (⟨some 27, .load _ _, _, _, _, _⟩ :: _) _ _; refine wpl (o := ⟨some 27, .load _ _, _, _, _, _⟩) rfl fun K hK => op_load rfl (ad := ⟨b4, 1, none⟩) rfl (by kernel_rfl) (hs.cell m0 rfl) (hK _ _ ?_); clear hK K))
  have hs1 := (((hs.addNil none 5 1).rcBods_nil).addNil none 46 2).pack (L := own (.slice none 0 0) 46 0 2 [] :: rcBods [] :: own (.slice none 0 0) 5 0 1 [] :: row b4 (place first many epoch) 25 :: disk b D :: L) (by repeat (first | with_reducible exact Pack.refl | with_reducible exact Pack.nil | with_reducible refine Pack.cons (by repeat (first | with_reducible exact Pick.here | with_reducible apply Pick.there)) ?_ | with_reducible apply Pack.drop))
  clear hs k21
  have hs := hs1
  clear hs1
  go_loopw [8, 9, 10, 11, 28] (fun v8 v9 v10 v11 v28 wr => ∃ (i next : Nat) (bg : Bool) (body : List UInt8) (out : List (Rcd × Value)), i ≤ many ∧ v28 = .int .i64 (i : Nat) ∧ v10 = .int .u32 (next : Nat) ∧ v11 = .bool bg ∧ (∀ j, j < i → (scF D first many epoch ((from_ + j) % 4294967296)).isSome = true) ∧ body.length ≤ 64 * i ∧ out.length ≤ i ∧ scGo (scF D first many epoch) (many - i) ((from_ + i) % 4294967296) next bg body (out.map (·.1)) = T ∧ Sat W wr (own v8 46 out.length 2 (rcCells out) :: rcBods out :: own v9 5 body.length 1 (u8s body) :: row b4 (place first many epoch) 25 :: disk b D :: L)) (fun _ _ _ _ v28 _ => many - (intOf v28).toNat)
  case atStart => exact ⟨0, from_, true, [], [], by omega, rfl, rfl, rfl, fun j hj => by omega, by simp, by simp, by rw [Nat.sub_zero, Nat.add_zero, Nat.mod_eq_of_lt hfr]; exact HT0.out, hs⟩
  case round =>
    clear hs
    obtain ⟨i, next, bg, body, out, hi, rfl, rfl, rfl, hall, hbl, hol, hgo, hs⟩ := hrel
    obtain ⟨A8, c8, rfl, _, _⟩ := own_slice hs (i := 0) rfl
    obtain ⟨A9, c9, rfl, _, _⟩ := own_slice hs (i := 2) rfl
    have hiK := HKB.out i hi hall
    by_cases hin : i < many
    · have hinI : (i : Int) < (many : Int) := by omega
      have hwi : IntKind.i64.wrap ((i : Int) + 1) = (i : Int) + 1 := by rw [IntKind.wrap_i64]; omega
      have hwu : IntKind.u32.wrap (i : Int) = (i : Int) := by rw [IntKind.wrap_u32]; omega
      obtain ⟨n, hn⟩ : ∃ n, (from_ + i) % 4294967296 = n := ⟨_, rfl⟩
      have hnlt : n < 4294967296 := by omega
      have hnI : IntKind.u32.wrap ((from_ : Int) + (i : Int)) = (n : Int) := by rw [IntKind.wrap_u32]; omega
      obtain ⟨n1, hn1⟩ : ∃ x, (n + 1) % 4294967296 = x := ⟨_, rfl⟩
      have hn1I : IntKind.u32.wrap ((n : Int) + 1) = (n1 : Int) := by rw [IntKind.wrap_u32]; omega
      have hnext : Box ((from_ + (i + 1)) % 4294967296 = n1) := ⟨by omega⟩
      rw [hn] at hgo
      have hk : many - i = (many - (i + 1)) + 1 := by omega
      rw [hk] at hgo
      have HGO := Box.mk hgo
      have HALL := Box.mk hall
      have HN1 := Box.mk hn1
      have HNE := Box.mk hn
      clear hgo hk hall hn1 hn
      cases hF : scF D first many epoch n with
      | none =>
        have HT : Box (T = (out.map (·.1), next)) := ⟨by rw [← HGO.out, scGo_none hF]⟩
        have HS := Box.mk hF
        clear hF
        go_wp2_with (first
          | (guard_target = wpList _ _ _ (⟨some 37, .load _ _, _, _, _, _⟩ :: _) _ _; refine wpl (o := ⟨some 37, .load _ _, _, _, _, _⟩) rfl fun K hK => op_load_agg rfl (b := b4) (i := 0) rfl ((place first many epoch)) (range_whole hs (by (try dsimp only [List.set]); repeat (first | with_reducible exact List.mem_cons_self | with_reducible apply List.mem_cons_of_mem))) (by kernel_rfl) (by kernel_rfl) (hK _ _ ?_); clear hK K)
          | (go_at_call 48; go_must (refine (scat_spec W _ _ b D (hs.pick (A := disk b D) (by repeat (first | with_reducible exact Pick.here | with_reducible apply Pick.there))) first many epoch n h1 h2 hnlt hr).mono ?_); clear hs; rintro e w1 ⟨f, vb, rfl, hf', hs⟩; rw [HS.out]; rw [show (none : Option Fr).isSome = false from rfl]; clear hf'
             obtain ⟨Ax, cx, rfl, _, _⟩ := slice_form (hs.bytes (bytesH_has 0 rfl)))
          | (guard_target = wpList _ _ _ (⟨some 14, .alloc _, _, _, _, _⟩ :: _) _ _; refine wpl (o := ⟨some 14, .alloc _, _, _, _, _⟩) rfl fun K hK => ?_; go_must (refine op_alloc hs rfl _ zframe [.int .u32 0, .int .u32 0, .int .u8 0, .slice none 0 0] rfl fun b14 w1 h => hK _ _ ?_); clear hs hK K; have hs := h; clear h; try dsimp only [List.set] at hs)
          | (guard_target = wpList _ _ _ (⟨none, .store _ (.tmp 14) _, _, _, _, _⟩ :: _) _ _; refine wpl (o := ⟨none, .store _ (.tmp 14) _, _, _, _, _⟩) rfl fun K hK => ?_; go_must (refine op_store_whole (hs.pick (A := row b14 [.int .u32 0, .int .u32 0, .int .u8 0, .slice none 0 0] 110) (by repeat (first | with_reducible exact Pick.here | with_reducible apply Pick.there))) (b := b14) rfl rfl (frCells f (.slice Ax f.body.length cx)) rfl (frcells_one _ _ _ _) (by kernel_rfl) (k := 0) rfl rfl fun w3 h => hK _ _ ?_); clear hs hK K; have hs := h; clear h; dsimp only [List.set] at hs
             have k48 : w3.cell? ⟨b14, 2, none⟩ = some (.int .u8 f.flag.toNat) := hs.cell (l := (frCells f (.slice Ax f.body.length cx))) (t := 110) (by (try dsimp only [List.set]); repeat (first | with_reducible exact List.mem_cons_self | with_reducible apply List.mem_cons_of_mem)) rfl))
        (try rw [Exit.noGoto_ret])
        go_ret2
        exact ⟨.slice A8 out.length c8, out, by rw [HT.out]; rfl, by rw [HT.out], hs.pack (by repeat (first | with_reducible exact Pack.refl | with_reducible exact Pack.nil | with_reducible refine Pack.cons (by repeat (first | with_reducible exact Pick.here | with_reducible apply Pick.there)) ?_ | with_reducible apply Pack.drop))⟩
      | some f =>
        have hfb : f.body.length ≤ 64 := by
          unfold scF at hF
          split at hF
          · cases hF; exact (parse_len (rbytes_len okD _)).1
          · cases hF
        have hall2 : Box (∀ j, j < i + 1 → (scF D first many epoch ((from_ + j) % 4294967296)).isSome = true) := ⟨fun j hj => by
          by_cases e : j = i
          · subst e; rw [HNE.out, hF]; rfl
          · exact HALL.out j (by omega)⟩
        have hiK2 := HKB.out (i + 1) (by omega) hall2.out
        obtain ⟨r1, hr1, hrb⟩ := flag_bit' f.flag 1
        have hr1' : (bits .and .u8 (f.flag.toNat : Int) 1 != 0) = r1 := hr1
        obtain ⟨r2, hr2, hrb2⟩ := flag_bit' f.flag 2
        have hr2' : (bits .and .u8 (f.flag.toNat : Int) 2 != 0) = r2 := hr2
        have HRB := Box.mk (And.intro hrb hrb2)
        have HS := Box.mk hF
        clear hr1 hrb hF hr2 hrb2
        cases bg
        · cases r1
          · cases r2
            · obtain ⟨bodyN, hbN⟩ : ∃ x, body ++ f.body = x := ⟨_, rfl⟩
              have hbN2 : bodyN.length = body.length + f.body.length := by rw [← hbN, List.length_append]
              have HE : Box ((u8s body ++ u8s f.body = u8s bodyN) ∧ (body.length + f.body.length = bodyN.length)) := ⟨⟨by rw [← hbN]; simp [u8s], by rw [hbN2]⟩⟩
              have hbN5 : bodyN.length ≤ 64 * (i + 1) := by (try simp only [List.length_nil] at hbN2); omega
              have hbN6 : bodyN.length ≤ 1000000 := by omega
              clear hbN2
              have HG : Box (scGo (scF D first many epoch) (many - (i + 1)) ((from_ + (i + 1)) % 4294967296) next false bodyN (out.map (·.1)) = T) := ⟨by have h9 := HGO.out; rw [scGo_go HS.out HRB.out.1 HRB.out.2, HN1.out] at h9; rw [hnext.out]; simp only [Bool.false_eq_true, if_false, hbN] at h9; exact h9⟩
              clear hbN
              go_wp2_with (first
                | (guard_target = wpList _ _ _ (⟨some 37, .load _ _, _, _, _, _⟩ :: _) _ _; refine wpl (o := ⟨some 37, .load _ _, _, _, _, _⟩) rfl fun K hK => op_load_agg rfl (b := b4) (i := 0) rfl ((place first many epoch)) (range_whole hs (by (try dsimp only [List.set]); repeat (first | with_reducible exact List.mem_cons_self | with_reducible apply List.mem_cons_of_mem))) (by kernel_rfl) (by kernel_rfl) (hK _ _ ?_); clear hK K)
                | (go_at_call 48; go_must (refine (scat_spec W _ _ b D (hs.pick (A := disk b D) (by repeat (first | with_reducible exact Pick.here | with_reducible apply Pick.there))) first many epoch n h1 h2 hnlt hr).mono ?_); clear hs; rintro e w1 ⟨f', vb, rfl, hf', hs⟩; rw [HS.out] at hf' ⊢; rw [show (some f : Option Fr).isSome = true from rfl]; have ef := hf' f rfl; subst ef; clear hf'
                   obtain ⟨Ax, cx, rfl, _, _⟩ := slice_form (hs.bytes (bytesH_has 0 rfl)))
                | (guard_target = wpList _ _ _ (⟨some 14, .alloc _, _, _, _, _⟩ :: _) _ _; refine wpl (o := ⟨some 14, .alloc _, _, _, _, _⟩) rfl fun K hK => ?_; go_must (refine op_alloc hs rfl _ zframe [.int .u32 0, .int .u32 0, .int .u8 0, .slice none 0 0] rfl fun b14 w1 h => hK _ _ ?_); clear hs hK K; have hs := h; clear h; try dsimp only [List.set] at hs)
                | (guard_target = wpList _ _ _ (⟨none, .store _ (.tmp 14) _, _, _, _, _⟩ :: _) _ _; refine wpl (o := ⟨none, .store _ (.tmp 14) _, _, _, _, _⟩) rfl fun K hK => ?_; go_must (refine op_store_whole (hs.pick (A := row b14 [.int .u32 0, .int .u32 0, .int .u8 0, .slice none 0 0] 110) (by repeat (first | with_reducible exact Pick.here | with_reducible apply Pick.there))) (b := b14) rfl rfl (frCells f (.slice Ax f.body.length cx)) rfl (frcells_one _ _ _ _) (by kernel_rfl) (k := 0) rfl rfl fun w3 h => hK _ _ ?_); clear hs hK K; have hs := h; clear h; dsimp only [List.set] at hs
                   have k48 : w3.cell? ⟨b14, 2, none⟩ = some (.int .u8 f.flag.toNat) := hs.cell (l := (frCells f (.slice Ax f.body.length cx))) (t := 110) (by (try dsimp only [List.set]); repeat (first | with_reducible exact List.mem_cons_self | with_reducible apply List.mem_cons_of_mem)) rfl)
                | (guard_target = wpList _ _ _ (⟨some 48, .load _ _, _, _, _, _⟩ :: _) _ _; refine wpl (o := ⟨some 48, .load _ _, _, _, _, _⟩) rfl fun K hK => op_load rfl (ad := ⟨b14, 2, none⟩) rfl (by kernel_rfl) k48 (hK _ _ ?_); clear hK K)
                | (guard_target = wpList _ _ _ (⟨some 57, .load _ _, _, _, _, _⟩ :: _) _ _; refine wpl (o := ⟨some 57, .load _ _, _, _, _, _⟩) rfl fun K hK => op_load rfl (ad := ⟨b14, 3, none⟩) rfl (by kernel_rfl) (hs.cell (l := (frCells f (.slice Ax f.body.length cx))) (t := 110) (by (try dsimp only [List.set]); repeat (first | with_reducible exact List.mem_cons_self | with_reducible apply List.mem_cons_of_mem)) rfl) (hK _ _ ?_); clear hK K)
                | (guard_target = wpList _ _ _ (⟨some 58, .call _, _, _, _, _⟩ :: _) _ _; refine wpl (o := ⟨some 58, .call _, _, _, _, _⟩) rfl fun K hK => ?_; go_must (refine op_append (hs.pick (A := own (.slice A9 body.length c9) 5 body.length 1 (u8s body)) (by repeat (first | with_reducible exact Pick.here | with_reducible apply Pick.there))) rfl Try.underlying36 Try.underlying36 info_u8 rfl (by omega) (k := 0) rfl rfl rfl (show Has _ (bytesAt (.slice Ax f.body.length cx) f.body) from Has.mem (A := bytesH (.slice Ax f.body.length cx) f.body) (by (try dsimp only [List.set]); repeat (first | with_reducible exact List.mem_cons_self | with_reducible apply List.mem_cons_of_mem)) fun F hF => hF) (u8s_one _) (by omega) (by omega) fun v58 w6 h => hK _ _ ?_); clear hs hK K; have hs := h; clear h; dsimp only [List.set] at hs
                   rw [HE.out.1, HE.out.2] at hs
                   obtain ⟨A58, c58, rfl, _, _⟩ := own_slice hs (i := 0) rfl
                   have k60 : w6.cell? ⟨b14, 2, none⟩ = some (.int .u8 f.flag.toNat) := hs.cell (l := (frCells f (.slice Ax f.body.length cx))) (t := 110) (by (try dsimp only [List.set]); repeat (first | with_reducible exact List.mem_cons_self | with_reducible apply List.mem_cons_of_mem)) rfl)
                | (guard_target = wpList _ _ _ (⟨some 60, .load _ _, _, _, _, _⟩ :: _) _ _; refine wpl (o := ⟨some 60, .load _ _, _, _, _, _⟩) rfl fun K hK => op_load rfl (ad := ⟨b14, 2, none⟩) rfl (by kernel_rfl) k60 (hK _ _ ?_); clear hK K))
              refine ⟨⟨i + 1, next, false, bodyN, out, by omega, by go_num, rfl, rfl, hall2.out, hbN5, by omega, HG.out, hs.pack (by repeat (first | with_reducible exact Pack.refl | with_reducible exact Pack.nil | with_reducible refine Pack.cons (by repeat (first | with_reducible exact Pick.here | with_reducible apply Pick.there)) ?_ | with_reducible apply Pack.drop))⟩, by simp only [intOf]; omega⟩
            · obtain ⟨bodyN, hbN⟩ : ∃ x, body ++ f.body = x := ⟨_, rfl⟩
              have hbN2 : bodyN.length = body.length + f.body.length := by rw [← hbN, List.length_append]
              have HE : Box ((u8s body ++ u8s f.body = u8s bodyN) ∧ (body.length + f.body.length = bodyN.length)) := ⟨⟨by rw [← hbN]; simp [u8s], by rw [hbN2]⟩⟩
              have hbN5 : bodyN.length ≤ 64 * (i + 1) := by (try simp only [List.length_nil] at hbN2); omega
              have hbN6 : bodyN.length ≤ 1000000 := by omega
              clear hbN2
              have HG : Box (scGo (scF D first many epoch) (many - (i + 1)) ((from_ + (i + 1)) % 4294967296) n1 true bodyN ((out.map (·.1)) ++ [(bodyN, n1)]) = T) := ⟨by have h9 := HGO.out; rw [scGo_yes HS.out HRB.out.1 HRB.out.2, HN1.out] at h9; rw [hnext.out]; simp only [Bool.false_eq_true, if_false, hbN] at h9; exact h9⟩
              clear hbN
              go_wp2_with (first
                | (guard_target = wpList _ _ _ (⟨some 37, .load _ _, _, _, _, _⟩ :: _) _ _; refine wpl (o := ⟨some 37, .load _ _, _, _, _, _⟩) rfl fun K hK => op_load_agg rfl (b := b4) (i := 0) rfl ((place first many epoch)) (range_whole hs (by (try dsimp only [List.set]); repeat (first | with_reducible exact List.mem_cons_self | with_reducible apply List.mem_cons_of_mem))) (by kernel_rfl) (by kernel_rfl) (hK _ _ ?_); clear hK K)
                | (go_at_call 48; go_must (refine (scat_spec W _ _ b D (hs.pick (A := disk b D) (by repeat (first | with_reducible exact Pick.here | with_reducible apply Pick.there))) first many epoch n h1 h2 hnlt hr).mono ?_); clear hs; rintro e w1 ⟨f', vb, rfl, hf', hs⟩; rw [HS.out] at hf' ⊢; rw [show (some f : Option Fr).isSome = true from rfl]; have ef := hf' f rfl; subst ef; clear hf'
                   obtain ⟨Ax, cx, rfl, _, _⟩ := slice_form (hs.bytes (bytesH_has 0 rfl)))
                | (guard_target = wpList _ _ _ (⟨some 14, .alloc _, _, _, _, _⟩ :: _) _ _; refine wpl (o := ⟨some 14, .alloc _, _, _, _, _⟩) rfl fun K hK => ?_; go_must (refine op_alloc hs rfl _ zframe [.int .u32 0, .int .u32 0, .int .u8 0, .slice none 0 0] rfl fun b14 w1 h => hK _ _ ?_); clear hs hK K; have hs := h; clear h; try dsimp only [List.set] at hs)
                | (guard_target = wpList _ _ _ (⟨none, .store _ (.tmp 14) _, _, _, _, _⟩ :: _) _ _; refine wpl (o := ⟨none, .store _ (.tmp 14) _, _, _, _, _⟩) rfl fun K hK => ?_; go_must (refine op_store_whole (hs.pick (A := row b14 [.int .u32 0, .int .u32 0, .int .u8 0, .slice none 0 0] 110) (by repeat (first | with_reducible exact Pick.here | with_reducible apply Pick.there))) (b := b14) rfl rfl (frCells f (.slice Ax f.body.length cx)) rfl (frcells_one _ _ _ _) (by kernel_rfl) (k := 0) rfl rfl fun w3 h => hK _ _ ?_); clear hs hK K; have hs := h; clear h; dsimp only [List.set] at hs
                   have k48 : w3.cell? ⟨b14, 2, none⟩ = some (.int .u8 f.flag.toNat) := hs.cell (l := (frCells f (.slice Ax f.body.length cx))) (t := 110) (by (try dsimp only [List.set]); repeat (first | with_reducible exact List.mem_cons_self | with_reducible apply List.mem_cons_of_mem)) rfl)
                | (guard_target = wpList _ _ _ (⟨some 48, .load _ _, _, _, _, _⟩ :: _) _ _; refine wpl (o := ⟨some 48, .load _ _, _, _, _, _⟩) rfl fun K hK => op_load rfl (ad := ⟨b14, 2, none⟩) rfl (by kernel_rfl) k48 (hK _ _ ?_); clear hK K)
                | (guard_target = wpList _ _ _ (⟨some 57, .load _ _, _, _, _, _⟩ :: _) _ _; refine wpl (o := ⟨some 57, .load _ _, _, _, _, _⟩) rfl fun K hK => op_load rfl (ad := ⟨b14, 3, none⟩) rfl (by kernel_rfl) (hs.cell (l := (frCells f (.slice Ax f.body.length cx))) (t := 110) (by (try dsimp only [List.set]); repeat (first | with_reducible exact List.mem_cons_self | with_reducible apply List.mem_cons_of_mem)) rfl) (hK _ _ ?_); clear hK K)
                | (guard_target = wpList _ _ _ (⟨some 58, .call _, _, _, _, _⟩ :: _) _ _; refine wpl (o := ⟨some 58, .call _, _, _, _, _⟩) rfl fun K hK => ?_; go_must (refine op_append (hs.pick (A := own (.slice A9 body.length c9) 5 body.length 1 (u8s body)) (by repeat (first | with_reducible exact Pick.here | with_reducible apply Pick.there))) rfl Try.underlying36 Try.underlying36 info_u8 rfl (by omega) (k := 0) rfl rfl rfl (show Has _ (bytesAt (.slice Ax f.body.length cx) f.body) from Has.mem (A := bytesH (.slice Ax f.body.length cx) f.body) (by (try dsimp only [List.set]); repeat (first | with_reducible exact List.mem_cons_self | with_reducible apply List.mem_cons_of_mem)) fun F hF => hF) (u8s_one _) (by omega) (by omega) fun v58 w6 h => hK _ _ ?_); clear hs hK K; have hs := h; clear h; dsimp only [List.set] at hs
                   rw [HE.out.1, HE.out.2] at hs
                   obtain ⟨A58, c58, rfl, _, _⟩ := own_slice hs (i := 0) rfl
                   have k60 : w6.cell? ⟨b14, 2, none⟩ = some (.int .u8 f.flag.toNat) := hs.cell (l := (frCells f (.slice Ax f.body.length cx))) (t := 110) (by (try dsimp only [List.set]); repeat (first | with_reducible exact List.mem_cons_self | with_reducible apply List.mem_cons_of_mem)) rfl)
                | (guard_target = wpList _ _ _ (⟨some 60, .load _ _, _, _, _, _⟩ :: _) _ _; refine wpl (o := ⟨some 60, .load _ _, _, _, _, _⟩) rfl fun K hK => op_load rfl (ad := ⟨b14, 2, none⟩) rfl (by kernel_rfl) k60 (hK _ _ ?_); clear hK K)
                | (go_at_call 49; go_must (refine (clone_spec W _ _ hs _ bodyN (Has.mem (A := own (.slice A58 bodyN.length c58) 5 bodyN.length 1 (u8s bodyN)) (by (try dsimp only [List.set]); repeat (first | with_reducible exact List.mem_cons_self | with_reducible apply List.mem_cons_of_mem)) own_sliceAt) hbN6).mono ?_); clear hs; rintro e w1 ⟨v69, rfl, hs⟩
                   obtain ⟨A69, c69, rfl, _, _⟩ := own_slice hs (i := 0) rfl)
                | (guard_target = wpList _ _ _ (⟨some 71, .buildSlice _ _ _, _, _, _, _⟩ :: _) _ _; refine wpl (o := ⟨some 71, .buildSlice _ _ _, _, _, _, _⟩) rfl fun K hK => ?_; go_must (refine op_lit_agg1 hs rfl Try.underlying39 info_rec [.int .u32 (n1 : Nat), .slice A69 bodyN.length c69] rfl rfl (by omega) (by omega) fun b71 w2 h => hK _ _ ?_); clear hs hK K; have hs := h; clear h; try dsimp only [List.set] at hs)
                | (guard_target = wpList _ _ _ (⟨some 72, .call _, _, _, _, _⟩ :: _) _ _; refine wpl (o := ⟨some 72, .call _, _, _, _, _⟩) rfl fun K hK => ?_; go_must (refine op_append (hs.pick (A := own (.slice A8 out.length c8) 46 out.length 2 (rcCells out)) (by repeat (first | with_reducible exact Pick.here | with_reducible apply Pick.there))) rfl Try.underlying39 Try.underlying39 info_rec rfl (by omega) (k := 0) rfl rfl rfl (Has.of (A := row b71 [.int .u32 (n1 : Nat), .slice A69 bodyN.length c69] 46) (by (try dsimp only [List.set]); repeat (first | with_reducible exact List.mem_cons_self | with_reducible apply List.mem_cons_of_mem)) fun F hF => own_sliceAt F (own_exact (n := 1) (sz := 2) rfl (by omega) F hF)) (by simp [Value.oneCell']) (by omega) (by omega) fun v72 w7 h => hK _ _ ?_); clear hs hK K; have hs := h; clear h; dsimp only [List.set] at hs))
              have h1' := (hs.pick (A := rcBods out) (by repeat (first | with_reducible exact Pick.here | with_reducible apply Pick.there))).pick (A := own (.slice A69 bodyN.length c69) 5 bodyN.length 1 (u8s bodyN)) (by repeat (first | with_reducible exact Pick.here | with_reducible apply Pick.there))
              have h2' := h1'.sub (i := 0) rfl (B := bytesH (.slice A69 bodyN.length c69) bodyN) fun F hF => own_sliceAt F hF
              dsimp only [List.set] at h2'
              have h3' := Sat.rcBods_snoc (x := (bodyN, n1)) h2'
              have e5 : rcCells out ++ [.int .u32 (n1 : Nat), .slice A69 bodyN.length c69] = rcCells (out ++ [((bodyN, n1), .slice A69 bodyN.length c69)]) := by rw [rcCells_snoc]
              rw [e5] at h3'
              refine ⟨⟨i + 1, n1, true, bodyN, out ++ [((bodyN, n1), .slice A69 bodyN.length c69)], by omega, by go_num, rfl, rfl, hall2.out, hbN5, by simp; omega, by rw [List.map_append]; exact HG.out, ?_⟩, by simp only [intOf]; omega⟩
              rw [show (out ++ [((bodyN, n1), Value.slice A69 bodyN.length c69)]).length = out.length + 1 by simp]
              exact h3'.pack (by repeat (first | with_reducible exact Pack.refl | with_reducible exact Pack.nil | with_reducible refine Pack.cons (by repeat (first | with_reducible exact Pick.here | with_reducible apply Pick.there)) ?_ | with_reducible apply Pack.drop))
          · have HT : Box (T = (out.map (·.1), next)) := ⟨by rw [← HGO.out, scGo_no HS.out HRB.out.1 (by decide)]⟩
            go_wp2_with (first
              | (guard_target = wpList _ _ _ (⟨some 37, .load _ _, _, _, _, _⟩ :: _) _ _; refine wpl (o := ⟨some 37, .load _ _, _, _, _, _⟩) rfl fun K hK => op_load_agg rfl (b := b4) (i := 0) rfl ((place first many epoch)) (range_whole hs (by (try dsimp only [List.set]); repeat (first | with_reducible exact List.mem_cons_self | with_reducible apply List.mem_cons_of_mem))) (by kernel_rfl) (by kernel_rfl) (hK _ _ ?_); clear hK K)
              | (go_at_call 48; go_must (refine (scat_spec W _ _ b D (hs.pick (A := disk b D) (by repeat (first | with_reducible exact Pick.here | with_reducible apply Pick.there))) first many epoch n h1 h2 hnlt hr).mono ?_); clear hs; rintro e w1 ⟨f', vb, rfl, hf', hs⟩; rw [HS.out] at hf' ⊢; rw [show (some f : Option Fr).isSome = true from rfl]; have ef := hf' f rfl; subst ef; clear hf'
                 obtain ⟨Ax, cx, rfl, _, _⟩ := slice_form (hs.bytes (bytesH_has 0 rfl)))
              | (guard_target = wpList _ _ _ (⟨some 14, .alloc _, _, _, _, _⟩ :: _) _ _; refine wpl (o := ⟨some 14, .alloc _, _, _, _, _⟩) rfl fun K hK => ?_; go_must (refine op_alloc hs rfl _ zframe [.int .u32 0, .int .u32 0, .int .u8 0, .slice none 0 0] rfl fun b14 w1 h => hK _ _ ?_); clear hs hK K; have hs := h; clear h; try dsimp only [List.set] at hs)
              | (guard_target = wpList _ _ _ (⟨none, .store _ (.tmp 14) _, _, _, _, _⟩ :: _) _ _; refine wpl (o := ⟨none, .store _ (.tmp 14) _, _, _, _, _⟩) rfl fun K hK => ?_; go_must (refine op_store_whole (hs.pick (A := row b14 [.int .u32 0, .int .u32 0, .int .u8 0, .slice none 0 0] 110) (by repeat (first | with_reducible exact Pick.here | with_reducible apply Pick.there))) (b := b14) rfl rfl (frCells f (.slice Ax f.body.length cx)) rfl (frcells_one _ _ _ _) (by kernel_rfl) (k := 0) rfl rfl fun w3 h => hK _ _ ?_); clear hs hK K; have hs := h; clear h; dsimp only [List.set] at hs
                 have k48 : w3.cell? ⟨b14, 2, none⟩ = some (.int .u8 f.flag.toNat) := hs.cell (l := (frCells f (.slice Ax f.body.length cx))) (t := 110) (by (try dsimp only [List.set]); repeat (first | with_reducible exact List.mem_cons_self | with_reducible apply List.mem_cons_of_mem)) rfl)
              | (guard_target = wpList _ _ _ (⟨some 48, .load _ _, _, _, _, _⟩ :: _) _ _; refine wpl (o := ⟨some 48, .load _ _, _, _, _, _⟩) rfl fun K hK => op_load rfl (ad := ⟨b14, 2, none⟩) rfl (by kernel_rfl) k48 (hK _ _ ?_); clear hK K))
            (try rw [Exit.noGoto_ret])
            go_ret2
            exact ⟨.slice A8 out.length c8, out, by rw [HT.out]; rfl, by rw [HT.out], hs.pack (by repeat (first | with_reducible exact Pack.refl | with_reducible exact Pack.nil | with_reducible refine Pack.cons (by repeat (first | with_reducible exact Pick.here | with_reducible apply Pick.there)) ?_ | with_reducible apply Pack.drop))⟩
        · cases r1
          · have HT : Box (T = (out.map (·.1), next)) := ⟨by rw [← HGO.out, scGo_no HS.out HRB.out.1 (by decide)]⟩
            go_wp2_with (first
              | (guard_target = wpList _ _ _ (⟨some 37, .load _ _, _, _, _, _⟩ :: _) _ _; refine wpl (o := ⟨some 37, .load _ _, _, _, _, _⟩) rfl fun K hK => op_load_agg rfl (b := b4) (i := 0) rfl ((place first many epoch)) (range_whole hs (by (try dsimp only [List.set]); repeat (first | with_reducible exact List.mem_cons_self | with_reducible apply List.mem_cons_of_mem))) (by kernel_rfl) (by kernel_rfl) (hK _ _ ?_); clear hK K)
              | (go_at_call 48; go_must (refine (scat_spec W _ _ b D (hs.pick (A := disk b D) (by repeat (first | with_reducible exact Pick.here | with_reducible apply Pick.there))) first many epoch n h1 h2 hnlt hr).mono ?_); clear hs; rintro e w1 ⟨f', vb, rfl, hf', hs⟩; rw [HS.out] at hf' ⊢; rw [show (some f : Option Fr).isSome = true from rfl]; have ef := hf' f rfl; subst ef; clear hf'
                 obtain ⟨Ax, cx, rfl, _, _⟩ := slice_form (hs.bytes (bytesH_has 0 rfl)))
              | (guard_target = wpList _ _ _ (⟨some 14, .alloc _, _, _, _, _⟩ :: _) _ _; refine wpl (o := ⟨some 14, .alloc _, _, _, _, _⟩) rfl fun K hK => ?_; go_must (refine op_alloc hs rfl _ zframe [.int .u32 0, .int .u32 0, .int .u8 0, .slice none 0 0] rfl fun b14 w1 h => hK _ _ ?_); clear hs hK K; have hs := h; clear h; try dsimp only [List.set] at hs)
              | (guard_target = wpList _ _ _ (⟨none, .store _ (.tmp 14) _, _, _, _, _⟩ :: _) _ _; refine wpl (o := ⟨none, .store _ (.tmp 14) _, _, _, _, _⟩) rfl fun K hK => ?_; go_must (refine op_store_whole (hs.pick (A := row b14 [.int .u32 0, .int .u32 0, .int .u8 0, .slice none 0 0] 110) (by repeat (first | with_reducible exact Pick.here | with_reducible apply Pick.there))) (b := b14) rfl rfl (frCells f (.slice Ax f.body.length cx)) rfl (frcells_one _ _ _ _) (by kernel_rfl) (k := 0) rfl rfl fun w3 h => hK _ _ ?_); clear hs hK K; have hs := h; clear h; dsimp only [List.set] at hs
                 have k48 : w3.cell? ⟨b14, 2, none⟩ = some (.int .u8 f.flag.toNat) := hs.cell (l := (frCells f (.slice Ax f.body.length cx))) (t := 110) (by (try dsimp only [List.set]); repeat (first | with_reducible exact List.mem_cons_self | with_reducible apply List.mem_cons_of_mem)) rfl)
              | (guard_target = wpList _ _ _ (⟨some 48, .load _ _, _, _, _, _⟩ :: _) _ _; refine wpl (o := ⟨some 48, .load _ _, _, _, _, _⟩) rfl fun K hK => op_load rfl (ad := ⟨b14, 2, none⟩) rfl (by kernel_rfl) k48 (hK _ _ ?_); clear hK K))
            (try rw [Exit.noGoto_ret])
            go_ret2
            exact ⟨.slice A8 out.length c8, out, by rw [HT.out]; rfl, by rw [HT.out], hs.pack (by repeat (first | with_reducible exact Pack.refl | with_reducible exact Pack.nil | with_reducible refine Pack.cons (by repeat (first | with_reducible exact Pick.here | with_reducible apply Pick.there)) ?_ | with_reducible apply Pack.drop))⟩
          · cases r2
            · obtain ⟨bodyN, hbN⟩ : ∃ x, ([] : List UInt8) ++ f.body = x := ⟨_, rfl⟩
              have hbN2 : bodyN.length = ([] : List UInt8).length + f.body.length := by rw [← hbN, List.length_append]
              have HE : Box ((([] : List Value) ++ u8s f.body = u8s bodyN) ∧ (0 + f.body.length = bodyN.length)) := ⟨⟨by rw [← hbN]; simp [u8s], by rw [hbN2]; rfl⟩⟩
              have hbN5 : bodyN.length ≤ 64 * (i + 1) := by (try simp only [List.length_nil] at hbN2); omega
              have hbN6 : bodyN.length ≤ 1000000 := by omega
              clear hbN2
              have HG : Box (scGo (scF D first many epoch) (many - (i + 1)) ((from_ + (i + 1)) % 4294967296) next false bodyN (out.map (·.1)) = T) := ⟨by have h9 := HGO.out; rw [scGo_go HS.out HRB.out.1 HRB.out.2, HN1.out] at h9; rw [hnext.out]; simp only [if_true, hbN] at h9; exact h9⟩
              clear hbN
              go_wp2_with (first
                | (guard_target = wpList _ _ _ (⟨some 37, .load _ _, _, _, _, _⟩ :: _) _ _; refine wpl (o := ⟨some 37, .load _ _, _, _, _, _⟩) rfl fun K hK => op_load_agg rfl (b := b4) (i := 0) rfl ((place first many epoch)) (range_whole hs (by (try dsimp only [List.set]); repeat (first | with_reducible exact List.mem_cons_self | with_reducible apply List.mem_cons_of_mem))) (by kernel_rfl) (by kernel_rfl) (hK _ _ ?_); clear hK K)
                | (go_at_call 48; go_must (refine (scat_spec W _ _ b D (hs.pick (A := disk b D) (by repeat (first | with_reducible exact Pick.here | with_reducible apply Pick.there))) first many epoch n h1 h2 hnlt hr).mono ?_); clear hs; rintro e w1 ⟨f', vb, rfl, hf', hs⟩; rw [HS.out] at hf' ⊢; rw [show (some f : Option Fr).isSome = true from rfl]; have ef := hf' f rfl; subst ef; clear hf'
                   obtain ⟨Ax, cx, rfl, _, _⟩ := slice_form (hs.bytes (bytesH_has 0 rfl)))
                | (guard_target = wpList _ _ _ (⟨some 14, .alloc _, _, _, _, _⟩ :: _) _ _; refine wpl (o := ⟨some 14, .alloc _, _, _, _, _⟩) rfl fun K hK => ?_; go_must (refine op_alloc hs rfl _ zframe [.int .u32 0, .int .u32 0, .int .u8 0, .slice none 0 0] rfl fun b14 w1 h => hK _ _ ?_); clear hs hK K; have hs := h; clear h; try dsimp only [List.set] at hs)
                | (guard_target = wpList _ _ _ (⟨none, .store _ (.tmp 14) _, _, _, _, _⟩ :: _) _ _; refine wpl (o := ⟨none, .store _ (.tmp 14) _, _, _, _, _⟩) rfl fun K hK => ?_; go_must (refine op_store_whole (hs.pick (A := row b14 [.int .u32 0, .int .u32 0, .int .u8 0, .slice none 0 0] 110) (by repeat (first | with_reducible exact Pick.here | with_reducible apply Pick.there))) (b := b14) rfl rfl (frCells f (.slice Ax f.body.length cx)) rfl (frcells_one _ _ _ _) (by kernel_rfl) (k := 0) rfl rfl fun w3 h => hK _ _ ?_); clear hs hK K; have hs := h; clear h; dsimp only [List.set] at hs
                   have k48 : w3.cell? ⟨b14, 2, none⟩ = some (.int .u8 f.flag.toNat) := hs.cell (l := (frCells f (.slice Ax f.body.length cx))) (t := 110) (by (try dsimp only [List.set]); repeat (first | with_reducible exact List.mem_cons_self | with_reducible apply List.mem_cons_of_mem)) rfl)
                | (guard_target = wpList _ _ _ (⟨some 48, .load _ _, _, _, _, _⟩ :: _) _ _; refine wpl (o := ⟨some 48, .load _ _, _, _, _, _⟩) rfl fun K hK => op_load rfl (ad := ⟨b14, 2, none⟩) rfl (by kernel_rfl) k48 (hK _ _ ?_); clear hK K)
                | (guard_target = wpList _ _ _ (⟨some 57, .load _ _, _, _, _, _⟩ :: _) _ _; refine wpl (o := ⟨some 57, .load _ _, _, _, _, _⟩) rfl fun K hK => op_load rfl (ad := ⟨b14, 3, none⟩) rfl (by kernel_rfl) (hs.cell (l := (frCells f (.slice Ax f.body.length cx))) (t := 110) (by (try dsimp only [List.set]); repeat (first | with_reducible exact List.mem_cons_self | with_reducible apply List.mem_cons_of_mem)) rfl) (hK _ _ ?_); clear hK K)
                | (guard_target = wpList _ _ _ (⟨some 58, .call _, _, _, _, _⟩ :: _) _ _; refine wpl (o := ⟨some 58, .call _, _, _, _, _⟩) rfl fun K hK => ?_; go_must (refine op_append (hs.addNil none 5 1) rfl Try.underlying36 Try.underlying36 info_u8 rfl (by omega) (k := 0) rfl rfl rfl (show Has _ (bytesAt (.slice Ax f.body.length cx) f.body) from Has.mem (A := bytesH (.slice Ax f.body.length cx) f.body) (by (try dsimp only [List.set]); repeat (first | with_reducible exact List.mem_cons_self | with_reducible apply List.mem_cons_of_mem)) fun F hF => hF) (u8s_one _) (by omega) (by omega) fun v58 w6 h => hK _ _ ?_); clear hs hK K; have hs := h; clear h; dsimp only [List.set] at hs
                   rw [HE.out.1, HE.out.2] at hs
                   obtain ⟨A58, c58, rfl, _, _⟩ := own_slice hs (i := 0) rfl
                   have k60 : w6.cell? ⟨b14, 2, none⟩ = some (.int .u8 f.flag.toNat) := hs.cell (l := (frCells f (.slice Ax f.body.length cx))) (t := 110) (by (try dsimp only [List.set]); repeat (first | with_reducible exact List.mem_cons_self | with_reducible apply List.mem_cons_of_mem)) rfl)
                | (guard_target = wpList _ _ _ (⟨some 60, .load _ _, _, _, _, _⟩ :: _) _ _; refine wpl (o := ⟨some 60, .load _ _, _, _, _, _⟩) rfl fun K hK => op_load rfl (ad := ⟨b14, 2, none⟩) rfl (by kernel_rfl) k60 (hK _ _ ?_); clear hK K))
              refine ⟨⟨i + 1, next, false, bodyN, out, by omega, by go_num, rfl, rfl, hall2.out, hbN5, by omega, HG.out, hs.pack (by repeat (first | with_reducible exact Pack.refl | with_reducible exact Pack.nil | with_reducible refine Pack.cons (by repeat (first | with_reducible exact Pick.here | with_reducible apply Pick.there)) ?_ | with_reducible apply Pack.drop))⟩, by simp only [intOf]; omega⟩
            · obtain ⟨bodyN, hbN⟩ : ∃ x, ([] : List UInt8) ++ f.body = x := ⟨_, rfl⟩
              have hbN2 : bodyN.length = ([] : List UInt8).length + f.body.length := by rw [← hbN, List.length_append]
              have HE : Box ((([] : List Value) ++ u8s f.body = u8s bodyN) ∧ (0 + f.body.length = bodyN.length)) := ⟨⟨by rw [← hbN]; simp [u8s], by rw [hbN2]; rfl⟩⟩
              have hbN5 : bodyN.length ≤ 64 * (i + 1) := by (try simp only [List.length_nil] at hbN2); omega
              have hbN6 : bodyN.length ≤ 1000000 := by omega
              clear hbN2
              have HG : Box (scGo (scF D first many epoch) (many - (i + 1)) ((from_ + (i + 1)) % 4294967296) n1 true bodyN ((out.map (·.1)) ++ [(bodyN, n1)]) = T) := ⟨by have h9 := HGO.out; rw [scGo_yes HS.out HRB.out.1 HRB.out.2, HN1.out] at h9; rw [hnext.out]; simp only [if_true, hbN] at h9; exact h9⟩
              clear hbN
              go_wp2_with (first
                | (guard_target = wpList _ _ _ (⟨some 37, .load _ _, _, _, _, _⟩ :: _) _ _; refine wpl (o := ⟨some 37, .load _ _, _, _, _, _⟩) rfl fun K hK => op_load_agg rfl (b := b4) (i := 0) rfl ((place first many epoch)) (range_whole hs (by (try dsimp only [List.set]); repeat (first | with_reducible exact List.mem_cons_self | with_reducible apply List.mem_cons_of_mem))) (by kernel_rfl) (by kernel_rfl) (hK _ _ ?_); clear hK K)
                | (go_at_call 48; go_must (refine (scat_spec W _ _ b D (hs.pick (A := disk b D) (by repeat (first | with_reducible exact Pick.here | with_reducible apply Pick.there))) first many epoch n h1 h2 hnlt hr).mono ?_); clear hs; rintro e w1 ⟨f', vb, rfl, hf', hs⟩; rw [HS.out] at hf' ⊢; rw [show (some f : Option Fr).isSome = true from rfl]; have ef := hf' f rfl; subst ef; clear hf'
                   obtain ⟨Ax, cx, rfl, _, _⟩ := slice_form (hs.bytes (bytesH_has 0 rfl)))
                | (guard_target = wpList _ _ _ (⟨some 14, .alloc _, _, _, _, _⟩ :: _) _ _; refine wpl (o := ⟨some 14, .alloc _, _, _, _, _⟩) rfl fun K hK => ?_; go_must (refine op_alloc hs rfl _ zframe [.int .u32 0, .int .u32 0, .int .u8 0, .slice none 0 0] rfl fun b14 w1 h => hK _ _ ?_); clear hs hK K; have hs := h; clear h; try dsimp only [List.set] at hs)
                | (guard_target = wpList _ _ _ (⟨none, .store _ (.tmp 14) _, _, _, _, _⟩ :: _) _ _; refine wpl (o := ⟨none, .store _ (.tmp 14) _, _, _, _, _⟩) rfl fun K hK => ?_; go_must (refine op_store_whole (hs.pick (A := row b14 [.int .u32 0, .int .u32 0, .int .u8 0, .slice none 0 0] 110) (by repeat (first | with_reducible exact Pick.here | with_reducible apply Pick.there))) (b := b14) rfl rfl (frCells f (.slice Ax f.body.length cx)) rfl (frcells_one _ _ _ _) (by kernel_rfl) (k := 0) rfl rfl fun w3 h => hK _ _ ?_); clear hs hK K; have hs := h; clear h; dsimp only [List.set] at hs
                   have k48 : w3.cell? ⟨b14, 2, none⟩ = some (.int .u8 f.flag.toNat) := hs.cell (l := (frCells f (.slice Ax f.body.length cx))) (t := 110) (by (try dsimp only [List.set]); repeat (first | with_reducible exact List.mem_cons_self | with_reducible apply List.mem_cons_of_mem)) rfl)
                | (guard_target = wpList _ _ _ (⟨some 48, .load _ _, _, _, _, _⟩ :: _) _ _; refine wpl (o := ⟨some 48, .load _ _, _, _, _, _⟩) rfl fun K hK => op_load rfl (ad := ⟨b14, 2, none⟩) rfl (by kernel_rfl) k48 (hK _ _ ?_); clear hK K)
                | (guard_target = wpList _ _ _ (⟨some 57, .load _ _, _, _, _, _⟩ :: _) _ _; refine wpl (o := ⟨some 57, .load _ _, _, _, _, _⟩) rfl fun K hK => op_load rfl (ad := ⟨b14, 3, none⟩) rfl (by kernel_rfl) (hs.cell (l := (frCells f (.slice Ax f.body.length cx))) (t := 110) (by (try dsimp only [List.set]); repeat (first | with_reducible exact List.mem_cons_self | with_reducible apply List.mem_cons_of_mem)) rfl) (hK _ _ ?_); clear hK K)
                | (guard_target = wpList _ _ _ (⟨some 58, .call _, _, _, _, _⟩ :: _) _ _; refine wpl (o := ⟨some 58, .call _, _, _, _, _⟩) rfl fun K hK => ?_; go_must (refine op_append (hs.addNil none 5 1) rfl Try.underlying36 Try.underlying36 info_u8 rfl (by omega) (k := 0) rfl rfl rfl (show Has _ (bytesAt (.slice Ax f.body.length cx) f.body) from Has.mem (A := bytesH (.slice Ax f.body.length cx) f.body) (by (try dsimp only [List.set]); repeat (first | with_reducible exact List.mem_cons_self | with_reducible apply List.mem_cons_of_mem)) fun F hF => hF) (u8s_one _) (by omega) (by omega) fun v58 w6 h => hK _ _ ?_); clear hs hK K; have hs := h; clear h; dsimp only [List.set] at hs
                   rw [HE.out.1, HE.out.2] at hs
                   obtain ⟨A58, c58, rfl, _, _⟩ := own_slice hs (i := 0) rfl
                   have k60 : w6.cell? ⟨b14, 2, none⟩ = some (.int .u8 f.flag.toNat) := hs.cell (l := (frCells f (.slice Ax f.body.length cx))) (t := 110) (by (try dsimp only [List.set]); repeat (first | with_reducible exact List.mem_cons_self | with_reducible apply List.mem_cons_of_mem)) rfl)
                | (guard_target = wpList _ _ _ (⟨some 60, .load _ _, _, _, _, _⟩ :: _) _ _; refine wpl (o := ⟨some 60, .load _ _, _, _, _, _⟩) rfl fun K hK => op_load rfl (ad := ⟨b14, 2, none⟩) rfl (by kernel_rfl) k60 (hK _ _ ?_); clear hK K)
                | (go_at_call 49; go_must (refine (clone_spec W _ _ hs _ bodyN (Has.mem (A := own (.slice A58 bodyN.length c58) 5 bodyN.length 1 (u8s bodyN)) (by (try dsimp only [List.set]); repeat (first | with_reducible exact List.mem_cons_self | with_reducible apply List.mem_cons_of_mem)) own_sliceAt) hbN6).mono ?_); clear hs; rintro e w1 ⟨v69, rfl, hs⟩
                   obtain ⟨A69, c69, rfl, _, _⟩ := own_slice hs (i := 0) rfl)
                | (guard_target = wpList _ _ _ (⟨some 71, .buildSlice _ _ _, _, _, _, _⟩ :: _) _ _; refine wpl (o := ⟨some 71, .buildSlice _ _ _, _, _, _, _⟩) rfl fun K hK => ?_; go_must (refine op_lit_agg1 hs rfl Try.underlying39 info_rec [.int .u32 (n1 : Nat), .slice A69 bodyN.length c69] rfl rfl (by omega) (by omega) fun b71 w2 h => hK _ _ ?_); clear hs hK K; have hs := h; clear h; try dsimp only [List.set] at hs)
                | (guard_target = wpList _ _ _ (⟨some 72, .call _, _, _, _, _⟩ :: _) _ _; refine wpl (o := ⟨some 72, .call _, _, _, _, _⟩) rfl fun K hK => ?_; go_must (refine op_append (hs.pick (A := own (.slice A8 out.length c8) 46 out.length 2 (rcCells out)) (by repeat (first | with_reducible exact Pick.here | with_reducible apply Pick.there))) rfl Try.underlying39 Try.underlying39 info_rec rfl (by omega) (k := 0) rfl rfl rfl (Has.of (A := row b71 [.int .u32 (n1 : Nat), .slice A69 bodyN.length c69] 46) (by (try dsimp only [List.set]); repeat (first | with_reducible exact List.mem_cons_self | with_reducible apply List.mem_cons_of_mem)) fun F hF => own_sliceAt F (own_exact (n := 1) (sz := 2) rfl (by omega) F hF)) (by simp [Value.oneCell']) (by omega) (by omega) fun v72 w7 h => hK _ _ ?_); clear hs hK K; have hs := h; clear h; dsimp only [List.set] at hs))
              have h1' := (hs.pick (A := rcBods out) (by repeat (first | with_reducible exact Pick.here | with_reducible apply Pick.there))).pick (A := own (.slice A69 bodyN.length c69) 5 bodyN.length 1 (u8s bodyN)) (by repeat (first | with_reducible exact Pick.here | with_reducible apply Pick.there))
              have h2' := h1'.sub (i := 0) rfl (B := bytesH (.slice A69 bodyN.length c69) bodyN) fun F hF => own_sliceAt F hF
              dsimp only [List.set] at h2'
              have h3' := Sat.rcBods_snoc (x := (bodyN, n1)) h2'
              have e5 : rcCells out ++ [.int .u32 (n1 : Nat), .slice A69 bodyN.length c69] = rcCells (out ++ [((bodyN, n1), .slice A69 bodyN.length c69)]) := by rw [rcCells_snoc]
              rw [e5] at h3'
              refine ⟨⟨i + 1, n1, true, bodyN, out ++ [((bodyN, n1), .slice A69 bodyN.length c69)], by omega, by go_num, rfl, rfl, hall2.out, hbN5, by simp; omega, by rw [List.map_append]; exact HG.out, ?_⟩, by simp only [intOf]; omega⟩
              rw [show (out ++ [((bodyN, n1), Value.slice A69 bodyN.length c69)]).length = out.length + 1 by simp]
              exact h3'.pack (by repeat (first | with_reducible exact Pack.refl | with_reducible exact Pack.nil | with_reducible refine Pack.cons (by repeat (first | with_reducible exact Pick.here | with_reducible apply Pick.there)) ?_ | with_reducible apply Pack.drop))
    · have hinI : ¬ (i : Int) < (many : Int) := by omega
      have HT : Box (T = (out.map (·.1), next)) := ⟨by rw [← hgo, show many - i = 0 by omega]; rfl⟩
      clear hgo
      go_wp2_with fail
      (try rw [Exit.noGoto_ret])
      go_ret2
      exact ⟨.slice A8 out.length c8, out, by rw [HT.out]; rfl, by rw [HT.out], hs.pack (by repeat (first | with_reducible exact Pack.refl | with_reducible exact Pack.nil | with_reducible refine Pack.cons (by repeat (first | with_reducible exact Pick.here | with_reducible apply Pick.there)) ?_ | with_reducible apply Pack.drop))⟩
end Go.Proofs.Ytimknlabhhopcaa
