/- The reference's bytes: ogiveref20.key, Put and PutState. -/
import Derived.Test.YthjnefpnnifjiaaDoorRdPut
import Derived.Test.YthjnefpnnifjiaaDoorRdRef1
set_option linter.unusedVariables false
set_option linter.unusedSimpArgs false
namespace Go.Proofs.YthjnefpnnifjiaaDoor
open Go.RowKit
set_option maxRecDepth 100000 in
set_option maxHeartbeats 2000000 in
theorem refkey_spec (W w : World) (L : List HP) (hs : Sat W w L) (k : RKey) :
    Calls Tryd.prog 53 #[.agg (kC k).toArray] w fun e w' => e = .returned (.string ⟨(encK k).toArray⟩) ∧ Sat W w' L := by
  obtain ⟨a, b, c⟩ := k
  have he : encK ⟨a, b, c⟩ = be 4 (u32n a) ++ be 4 (u32n b) ++ be 4 (u32n c) := by simp [encK, encI, RKey.ints]
  rw [he]
  have wa := wrap_u32n a
  have wb := wrap_u32n b
  have wc := wrap_u32n c
  have ha := u32n_lt a
  have hb := u32n_lt b
  have hc := u32n_lt c
  obtain ⟨ua, ea⟩ : ∃ u, u32n a = u := ⟨_, rfl⟩
  obtain ⟨ub, eb⟩ : ∃ u, u32n b = u := ⟨_, rfl⟩
  obtain ⟨uc, ec⟩ : ∃ u, u32n c = u := ⟨_, rfl⟩
  rw [ea] at wa ha
  rw [eb] at wb hb
  rw [ec] at wc hc
  rw [ea, eb, ec]
  clear he ea eb ec
  have k1 : ¬ 9223372036854775807 < 8 := by omega
  have k2 : ¬ 9223372036854775807 < 12 := by omega
  go_enter Tryd.func53, Tryd.ntmps53
  go_wp2_with (first
    | (guard_target = wpList _ _ _ (⟨some 1, .box _ _, _, _, _, _⟩ :: _) _ _; refine wpl (o := ⟨some 1, .box _ _, _, _, _, _⟩) rfl fun K hK => ?_; go_must (refine op_box hs rfl _ rfl (kC ⟨a, b, c⟩) rfl fun b1 w1 h => hK _ _ ?_); clear hs hK K; have hs := h; clear h; try dsimp only [List.set] at hs))
  have cS : ∀ w M, Sat W w M → row b1 (kC ⟨a, b, c⟩) 57 ∈ M → (rangeS b1 0 (kC ⟨a, b, c⟩)) w := fun w M h hm => range_whole h hm
  have h4 : ∀ w, (rangeS b1 0 (kC ⟨a, b, c⟩)) w → w.cell? ⟨b1, 0, none⟩ = some (.int .i64 a) := fun w h => h 0 _ rfl
  have h8 : ∀ w, (rangeS b1 0 (kC ⟨a, b, c⟩)) w → w.cell? ⟨b1, 1, none⟩ = some (.int .i64 b) := fun w h => h 1 _ rfl
  have h13 : ∀ w, (rangeS b1 0 (kC ⟨a, b, c⟩)) w → w.cell? ⟨b1, 2, none⟩ = some (.int .i64 c) := fun w h => h 2 _ rfl
  have hS0 := cS _ _ hs.drew (by (try dsimp only [List.set]); repeat (first | with_reducible exact List.mem_cons_self | with_reducible apply List.mem_cons_of_mem))
  refine wp_region_tree ((rangeS b1 0 (kC ⟨a, b, c⟩))) (.take 0 (.take 1 (.take 2 (.take 4 (.take 5 (.take 6 (.take 9 (.take 10 (.take 11 (.all [(3, .all [(7, .take 8 (.all [(12, .take 13 (.take 14 (DTree.done)))]))])])))))))))) (by kernel_rfl) (by kernel_rfl) (by kernel_rfl) (fun _ _ d _ _ h => by cases d <;> exact h) hS0 ?_
  have hs' := hs.drew
  clear hs
  have hs := hs'
  clear hs'
  have hq := fun p : Prop => class_const hS0 p
  clear hS0
  repeat (first
    | (with_reducible refine tree_load (o := ⟨some 4, .load _ _, _, _, _, _⟩) rfl rfl rfl rfl rfl h4 ?_)
    | (with_reducible refine tree_load (o := ⟨some 8, .load _ _, _, _, _, _⟩) rfl rfl rfl rfl rfl h8 ?_)
    | (with_reducible refine tree_load (o := ⟨some 13, .load _ _, _, _, _, _⟩) rfl rfl rfl rfl rfl h13 ?_)
    | (refine tree_take rfl (fun K hK => ?_); go_simp; (first | with_reducible refine hK _ ?_ | (rw [if_neg (by decide)]; with_reducible refine hK _ ?_)); clear hK K))
  refine tree_one_yes (o := _) rfl rfl (fun K hK => ?_) (cS _ _ hs (by (try dsimp only [List.set]); repeat (first | with_reducible exact List.mem_cons_self | with_reducible apply List.mem_cons_of_mem)))
  try go_simp
  go_at_call 52
  refine (rnum_spec W _ _ hs ua ha).mono ?_
  clear hs
  rintro e w5 ⟨rfl, hs⟩
  try go_simp
  refine hK _ _ (cS _ _ hs (by (try dsimp only [List.set]); repeat (first | with_reducible exact List.mem_cons_self | with_reducible apply List.mem_cons_of_mem))) ?_
  clear hK K
  refine tree_one_yes (o := _) rfl rfl (fun K hK => ?_) (cS _ _ hs (by (try dsimp only [List.set]); repeat (first | with_reducible exact List.mem_cons_self | with_reducible apply List.mem_cons_of_mem)))
  try go_simp
  go_at_call 52
  refine (rnum_spec W _ _ hs ub hb).mono ?_
  clear hs
  rintro e w5 ⟨rfl, hs⟩
  try go_simp
  refine hK _ _ (cS _ _ hs (by (try dsimp only [List.set]); repeat (first | with_reducible exact List.mem_cons_self | with_reducible apply List.mem_cons_of_mem))) ?_
  clear hK K
  repeat (first
    | (with_reducible refine tree_load (o := ⟨some 4, .load _ _, _, _, _, _⟩) rfl rfl rfl rfl rfl h4 ?_)
    | (with_reducible refine tree_load (o := ⟨some 8, .load _ _, _, _, _, _⟩) rfl rfl rfl rfl rfl h8 ?_)
    | (with_reducible refine tree_load (o := ⟨some 13, .load _ _, _, _, _, _⟩) rfl rfl rfl rfl rfl h13 ?_)
    | (refine tree_take rfl (fun K hK => ?_); go_simp; (first | with_reducible refine hK _ ?_ | (rw [if_neg (by decide)]; with_reducible refine hK _ ?_)); clear hK K))
  refine tree_one_yes (o := _) rfl rfl (fun K hK => ?_) (cS _ _ hs (by (try dsimp only [List.set]); repeat (first | with_reducible exact List.mem_cons_self | with_reducible apply List.mem_cons_of_mem)))
  try go_simp
  go_at_call 52
  refine (rnum_spec W _ _ hs uc hc).mono ?_
  clear hs
  rintro e w5 ⟨rfl, hs⟩
  try go_simp
  refine hK _ _ (cS _ _ hs (by (try dsimp only [List.set]); repeat (first | with_reducible exact List.mem_cons_self | with_reducible apply List.mem_cons_of_mem))) ?_
  clear hK K
  repeat (first
    | (with_reducible refine tree_load (o := ⟨some 4, .load _ _, _, _, _, _⟩) rfl rfl rfl rfl rfl h4 ?_)
    | (with_reducible refine tree_load (o := ⟨some 8, .load _ _, _, _, _, _⟩) rfl rfl rfl rfl rfl h8 ?_)
    | (with_reducible refine tree_load (o := ⟨some 13, .load _ _, _, _, _, _⟩) rfl rfl rfl rfl rfl h13 ?_)
    | (refine tree_take rfl (fun K hK => ?_); go_simp; (first | with_reducible refine hK _ ?_ | (rw [if_neg (by decide)]; with_reducible refine hK _ ?_)); clear hK K))
  refine tree_done ?_
  clear hq
  have e0 : ({ data := (be 4 ua).toArray } : ByteArray) ++ { data := (be 4 ub).toArray } ++ { data := (be 4 uc).toArray } = ⟨(be 4 ua ++ be 4 ub ++ be 4 uc).toArray⟩ := by rw [str_app, str_app]
  go_wp2_with fail
  go_ret
  exact ⟨congrArg (fun s => Ending.returned (.string s)) e0, hs.pack (by repeat (first | with_reducible exact Pack.refl | with_reducible exact Pack.nil | with_reducible refine Pack.cons (by repeat (first | with_reducible exact Pick.here | with_reducible apply Pick.there)) ?_ | with_reducible apply Pack.drop))⟩
def rpS (b1 i : Nat) (v : Value) (bo o : Nat) (x : List Value) (w : World) : Prop := w.cell? ⟨b1, i, none⟩ = some v ∧ w.rangeAt bo o x
set_option maxRecDepth 100000 in
set_option maxHeartbeats 8000000 in
theorem refput_spec (W w : World) (L : List HP) (hs : Sat W w L) (c : RCm) (ok : c.Ok) (hW : c.W.length ≤ 1000) (v : Value) (hv : Has L (sliceAt v c.W.length 4 (wsC c.W))) :
    Calls Tryd.prog 13 #[.agg (cmC c v).toArray] w fun e w' => e = .returned (.string ⟨(encCm c).toArray⟩) ∧ Sat W w' L := by
  obtain ⟨A, ca, rfl, _, _⟩ := slice_form (hs.slice hv)
  have HV := Box.mk hv
  have hts := ok.ts
  have hwn := wrap_u32n (c.W.length : Int)
  have hu := u32n_lt (c.W.length : Int)
  obtain ⟨u, hu2⟩ : ∃ u, u32n (c.W.length : Int) = u := ⟨_, rfl⟩
  rw [hu2] at hwn hu
  have HE : Box (encCm c = be 8 (i63 c.ts) ++ be 4 u ++ encWs c.W) := ⟨by unfold encCm; rw [hu2]⟩
  have hWl := Box.mk (fun i => encWs_len (c.W.take i) fun x hx => ok.ws x (List.mem_of_mem_take hx))
  have HOK := Box.mk ok.ws
  have ht1 : -9223372036854775808 ≤ c.ts := hts.1
  have ht2 : c.ts < 9223372036854775808 := hts.2
  clear hv ok hu2 hts
  have k1 : ¬ 9223372036854775807 < 12 := by omega
  go_enter Tryd.func13, Tryd.ntmps13
  go_wp2_with (first
    | (guard_target = wpList _ _ _ (⟨some 1, .box _ _, _, _, _, _⟩ :: _) _ _; refine wpl (o := ⟨some 1, .box _ _, _, _, _, _⟩) rfl fun K hK => ?_; go_must (refine op_box hs rfl _ rfl (cmC c (.slice A c.W.length ca)) rfl fun b1 w1 h => hK _ _ ?_); clear hs hK K; have hs := h; clear h; try dsimp only [List.set] at hs))
  have cS : ∀ w M, Sat W w M → row b1 (cmC c (.slice A c.W.length ca)) 24 ∈ M → (rangeS b1 0 (cmC c (.slice A c.W.length ca))) w := fun w M h hm => range_whole h hm
  have h6 : ∀ w, (rangeS b1 0 (cmC c (.slice A c.W.length ca))) w → w.cell? ⟨b1, 0, none⟩ = some (.int .i64 c.ts) := fun w h => h 0 _ rfl
  have h9 : ∀ w, (rangeS b1 0 (cmC c (.slice A c.W.length ca))) w → w.cell? ⟨b1, 1, none⟩ = some (.slice A c.W.length ca) := fun w h => h 1 _ rfl
  have hS0 := cS _ _ hs.drew (by (try dsimp only [List.set]); repeat (first | with_reducible exact List.mem_cons_self | with_reducible apply List.mem_cons_of_mem))
  refine wp_region_tree ((rangeS b1 0 (cmC c (.slice A c.W.length ca)))) (.take 0 (.take 1 (.take 3 (.take 4 (.take 5 (.take 6 (.all [(2, .all [(7, .take 8 (.take 9 (DTree.done)))])]))))))) (by kernel_rfl) (by kernel_rfl) (by kernel_rfl) (fun _ _ d _ _ h => by cases d <;> exact h) hS0 ?_
  have hs' := hs.drew
  clear hs
  have hs := hs'
  clear hs'
  have hq := fun p : Prop => class_const hS0 p
  clear hS0
  repeat (first
    | (with_reducible refine tree_load (o := ⟨some 6, .load _ _, _, _, _, _⟩) rfl rfl rfl rfl rfl h6 ?_)
    | (with_reducible refine tree_load (o := ⟨some 9, .load _ _, _, _, _, _⟩) rfl rfl rfl rfl rfl h9 ?_)
    | (refine tree_take rfl (fun K hK => ?_); go_simp; (first | with_reducible refine hK _ ?_ | (rw [if_neg (by decide)]; with_reducible refine hK _ ?_)); clear hK K))
  refine tree_one_yes (o := _) rfl rfl (fun K hK => ?_) (cS _ _ hs (by (try dsimp only [List.set]); repeat (first | with_reducible exact List.mem_cons_self | with_reducible apply List.mem_cons_of_mem)))
  try go_simp
  go_at_call 51
  refine (rint_spec W _ _ hs c.ts ht1 ht2).mono ?_
  clear hs
  rintro e w5 ⟨rfl, hs⟩
  try go_simp
  refine hK _ _ (cS _ _ hs (by (try dsimp only [List.set]); repeat (first | with_reducible exact List.mem_cons_self | with_reducible apply List.mem_cons_of_mem))) ?_
  clear hK K
  refine tree_one_yes (o := _) rfl rfl (fun K hK => ?_) (cS _ _ hs (by (try dsimp only [List.set]); repeat (first | with_reducible exact List.mem_cons_self | with_reducible apply List.mem_cons_of_mem)))
  try go_simp
  go_at_call 52
  refine (rnum_spec W _ _ hs u hu).mono ?_
  clear hs
  rintro e w5 ⟨rfl, hs⟩
  try go_simp
  refine hK _ _ (cS _ _ hs (by (try dsimp only [List.set]); repeat (first | with_reducible exact List.mem_cons_self | with_reducible apply List.mem_cons_of_mem))) ?_
  clear hK K
  repeat (first
    | (with_reducible refine tree_load (o := ⟨some 6, .load _ _, _, _, _, _⟩) rfl rfl rfl rfl rfl h6 ?_)
    | (with_reducible refine tree_load (o := ⟨some 9, .load _ _, _, _, _, _⟩) rfl rfl rfl rfl rfl h9 ?_)
    | (refine tree_take rfl (fun K hK => ?_); go_simp; (first | with_reducible refine hK _ ?_ | (rw [if_neg (by decide)]; with_reducible refine hK _ ?_)); clear hK K))
  refine tree_done ?_
  clear hq
  have e0 : ({ data := (be 8 (i63 c.ts)).toArray } : ByteArray) ++ { data := (be 4 u).toArray } = ⟨(be 8 (i63 c.ts) ++ be 4 u).toArray⟩ := str_app _ _
  obtain ⟨pre, hpre⟩ : ∃ pre, be 8 (i63 c.ts) ++ be 4 u = pre := ⟨_, rfl⟩
  have hpl : pre.length = 12 := by rw [← hpre]; simp
  rw [hpre] at e0
  have HE2 : Box (encCm c = pre ++ encWs c.W) := ⟨by rw [HE.out, hpre]⟩
  have e1 : ({ data := (be 8 (i63 c.ts)).toArray } : ByteArray) ++ { data := (be 4 u).toArray } = ⟨(pre ++ encWs (c.W.take 0)).toArray⟩ := by rw [e0]; simp [encWs]
  have HE1 := Box.mk e1
  clear HE hpre e0 e1
  go_wp2_with fail
  go_loopw [3, 4] (fun v3 v4 wr => ∃ i : Nat, i ≤ c.W.length ∧ v3 = (.string ⟨(pre ++ encWs (c.W.take i)).toArray⟩) ∧ v4 = .int .i64 (i : Nat) ∧ Sat W wr (row b1 (cmC c (.slice A c.W.length ca)) 24 :: L)) (fun _ v4 _ => c.W.length - (intOf v4).toNat)
  case atStart => exact ⟨0, by omega, congrArg Value.string HE1.out, rfl, hs.pack (by repeat (first | with_reducible exact Pack.refl | with_reducible exact Pack.nil | with_reducible refine Pack.cons (by repeat (first | with_reducible exact Pick.here | with_reducible apply Pick.there)) ?_ | with_reducible apply Pack.drop))⟩
  case round =>
    clear hs cS h6 h9 HE1
    obtain ⟨i, hi, rfl, rfl, hs⟩ := hrel
    by_cases hlt : i < c.W.length
    · have hltI : (i : Int) < (c.W.length : Int) := by omega
      have hwi : IntKind.i64.wrap ((i : Int) + 1) = (i : Int) + 1 := by rw [IntKind.wrap_i64]; omega
      obtain ⟨ba, oa, ca', e⟩ := slice_part wC 4 wC_length (by omega) hs (show Has _ (sliceAt (.slice A c.W.length ca) c.W.length 4 (wsC c.W)) from (by (try dsimp only [List.set]); repeat (first | exact HV.out | apply Has.tail))) (by omega)
      cases e
      have hr := fun w (M : List HP) (h : Sat W w M) (hM : ∃ M0, M = M0 ++ L) => slice_range wC 4 wC_length h (show Has M (sliceAt (.slice (some ⟨ba, oa, none⟩) c.W.length ca) c.W.length 4 (wsC c.W)) from by obtain ⟨M0, e⟩ := hM; rw [e]; exact HV.out.app) i hlt
      have hsn := Box.mk (encWs_snoc c.W i hlt)
      have hwl := hWl.out i
      have hx := HOK.out c.W[i] (List.getElem_mem hlt)
      have htk : (c.W.take i).length ≤ i := by simp; omega
      obtain ⟨acc, hacc⟩ : ∃ acc, pre ++ encWs (c.W.take i) = acc := ⟨_, rfl⟩
      have hal : acc.length ≤ 12 + 2000000014 * 1000 := by
        have : 2000000014 * (c.W.take i).length ≤ 2000000014 * 1000 := Nat.mul_le_mul_left _ (by omega)
        rw [← hacc, List.length_append]; omega
      rw [hacc]
      have HAC := Box.mk hacc
      generalize c.W[i] = x at hr hsn hx
      have htl := text_len x.v
      have hvl : x.v.length ≤ 1000000000 := hx.2
      have HKS := Box.mk (fun w (L : List HP) hs => refkey_spec W w L hs x.k)
      have HTS := Box.mk (fun w (L : List HP) hs => rtext_spec W w L hs x.v (by omega))
      obtain ⟨tx, htx⟩ : ∃ tx, text x.v = tx := ⟨_, rfl⟩
      obtain ⟨ky, hky⟩ : ∃ ky, encK x.k = ky := ⟨_, rfl⟩
      have hkl : ky.length = 12 := by rw [← hky]; exact encK_len _
      rw [htx] at htl HTS
      rw [hky] at HKS
      have k2 : ¬ 9223372036854775807 < acc.length + ky.length := by omega
      have k3 : ¬ 9223372036854775807 < acc.length + ky.length + tx.length := by omega
      have hnext : Box (pre ++ encWs (c.W.take (i + 1)) = acc ++ ky ++ tx) := ⟨by rw [hsn.out, ← List.append_assoc, HAC.out]; unfold encW; rw [htx, hky, List.append_assoc]⟩
      have HR := Box.mk hr
      clear hwl hx htk hacc htx hky hr hkl htl
      have cS : ∀ w M, Sat W w M → row b1 (cmC c (.slice (some ⟨ba, oa, none⟩) c.W.length ca)) 24 ∈ M → (∃ M0, M = M0 ++ L) → (rpS b1 1 (.slice (some ⟨ba, oa, none⟩) c.W.length ca) ba (oa + i * 4) (wC x)) w := fun w M h h1 h2 => ⟨h.cell h1 rfl, HR.out w M h h2⟩
      have h23 : ∀ w, (rpS b1 1 (.slice (some ⟨ba, oa, none⟩) c.W.length ca) ba (oa + i * 4) (wC x)) w → w.cell? ⟨b1, 1, none⟩ = some (.slice (some ⟨ba, oa, none⟩) c.W.length ca) := fun w h => h.1
      have h27 : ∀ w, (rpS b1 1 (.slice (some ⟨ba, oa, none⟩) c.W.length ca) ba (oa + i * 4) (wC x)) w → w.rangeAt ba (oa + i * 4) (kC x.k) := fun w h => range_pre (ds := [(.string ⟨(x.v).toArray⟩)]) h.2
      have h35 : ∀ w, (rpS b1 1 (.slice (some ⟨ba, oa, none⟩) c.W.length ca) ba (oa + i * 4) (wC x)) w → w.cell? ⟨ba, oa + i * 4 + 3, none⟩ = some (.string ⟨(x.v).toArray⟩) := fun w h => h.2 3 _ rfl
      go_wp2_with (first
        | (guard_target = wpList _ _ _ (⟨some 16, .load _ _, _, _, _, _⟩ :: _) _ _; refine wpl (o := ⟨some 16, .load _ _, _, _, _, _⟩) rfl fun K hK => op_load rfl (ad := ⟨b1, 1, none⟩) rfl (by kernel_rfl) (hs.cell (l := cmC c (.slice (some ⟨ba, oa, none⟩) c.W.length ca)) (t := 24) (by (try dsimp only [List.set]); repeat (first | with_reducible exact List.mem_cons_self | with_reducible apply List.mem_cons_of_mem)) rfl) (hK _ _ ?_); clear hK K))
      have hS0 := cS _ _ hs.drew (by (try dsimp only [List.set]); repeat (first | with_reducible exact List.mem_cons_self | with_reducible apply List.mem_cons_of_mem)) ⟨[_], rfl⟩
      refine wp_region_tree ((rpS b1 1 (.slice (some ⟨ba, oa, none⟩) c.W.length ca) ba (oa + i * 4) (wC x))) (.take 0 (.take 1 (.take 2 (.take 3 (.take 4 (.take 5 (.take 6 (.take 9 (.take 10 (.take 11 (.take 12 (.take 13 (.take 14 (.all [(7, .take 8 (.all [(15, .take 16 (.take 17 (DTree.done)))]))])))))))))))))) (by kernel_rfl) (by kernel_rfl) (by kernel_rfl) (fun _ _ d _ _ h => by cases d <;> exact h) hS0 ?_
      have hs' := hs.drew
      clear hs
      have hs := hs'
      clear hs'
      have hq := fun p : Prop => class_const hS0 p
      clear hS0
      repeat (first
        | (with_reducible refine tree_load (o := ⟨some 23, .load _ _, _, _, _, _⟩) rfl rfl rfl rfl rfl h23 ?_)
        | (with_reducible refine tree_load_agg (o := ⟨some 27, .load _ _, _, _, _, _⟩) (kC x.k) rfl rfl rfl rfl ?_ ?_ h27 ?_; (kernel_rfl); (kernel_rfl))
        | (with_reducible refine tree_load (o := ⟨some 31, .load _ _, _, _, _, _⟩) rfl rfl rfl rfl rfl h23 ?_)
        | (with_reducible refine tree_load (o := ⟨some 35, .load _ _, _, _, _, _⟩) rfl rfl rfl rfl rfl h35 ?_)
        | (refine tree_take rfl (fun K hK => ?_); go_simp; (first | with_reducible refine hK _ ?_ | (rw [if_neg (by decide)]; with_reducible refine hK _ ?_)); clear hK K))
      refine tree_one_yes (o := _) rfl rfl (fun K hK => ?_) (cS _ _ hs (by (try dsimp only [List.set]); repeat (first | with_reducible exact List.mem_cons_self | with_reducible apply List.mem_cons_of_mem)) ⟨[_], rfl⟩)
      try go_simp
      go_at_call 53
      refine (HKS.out _ _ hs).mono ?_
      clear hs
      rintro e w5 ⟨rfl, hs⟩
      try go_simp
      refine hK _ _ (cS _ _ hs (by (try dsimp only [List.set]); repeat (first | with_reducible exact List.mem_cons_self | with_reducible apply List.mem_cons_of_mem)) ⟨[_], rfl⟩) ?_
      clear hK K
      repeat (first
        | (with_reducible refine tree_load (o := ⟨some 23, .load _ _, _, _, _, _⟩) rfl rfl rfl rfl rfl h23 ?_)
        | (with_reducible refine tree_load_agg (o := ⟨some 27, .load _ _, _, _, _, _⟩) (kC x.k) rfl rfl rfl rfl ?_ ?_ h27 ?_; (kernel_rfl); (kernel_rfl))
        | (with_reducible refine tree_load (o := ⟨some 31, .load _ _, _, _, _, _⟩) rfl rfl rfl rfl rfl h23 ?_)
        | (with_reducible refine tree_load (o := ⟨some 35, .load _ _, _, _, _, _⟩) rfl rfl rfl rfl rfl h35 ?_)
        | (refine tree_take rfl (fun K hK => ?_); go_simp; (first | with_reducible refine hK _ ?_ | (rw [if_neg (by decide)]; with_reducible refine hK _ ?_)); clear hK K))
      refine tree_one_yes (o := _) rfl rfl (fun K hK => ?_) (cS _ _ hs (by (try dsimp only [List.set]); repeat (first | with_reducible exact List.mem_cons_self | with_reducible apply List.mem_cons_of_mem)) ⟨[_], rfl⟩)
      try go_simp
      go_at_call 54
      refine (HTS.out _ _ hs).mono ?_
      clear hs
      rintro e w5 ⟨rfl, hs⟩
      try go_simp
      refine hK _ _ (cS _ _ hs (by (try dsimp only [List.set]); repeat (first | with_reducible exact List.mem_cons_self | with_reducible apply List.mem_cons_of_mem)) ⟨[_], rfl⟩) ?_
      clear hK K
      repeat (first
        | (with_reducible refine tree_load (o := ⟨some 23, .load _ _, _, _, _, _⟩) rfl rfl rfl rfl rfl h23 ?_)
        | (with_reducible refine tree_load_agg (o := ⟨some 27, .load _ _, _, _, _, _⟩) (kC x.k) rfl rfl rfl rfl ?_ ?_ h27 ?_; (kernel_rfl); (kernel_rfl))
        | (with_reducible refine tree_load (o := ⟨some 31, .load _ _, _, _, _, _⟩) rfl rfl rfl rfl rfl h23 ?_)
        | (with_reducible refine tree_load (o := ⟨some 35, .load _ _, _, _, _, _⟩) rfl rfl rfl rfl rfl h35 ?_)
        | (refine tree_take rfl (fun K hK => ?_); go_simp; (first | with_reducible refine hK _ ?_ | (rw [if_neg (by decide)]; with_reducible refine hK _ ?_)); clear hK K))
      refine tree_done ?_
      clear hq
      go_wp2_with fail
      refine ⟨⟨i + 1, by omega, ?_, by go_num, hs⟩, by simp only [intOf]; omega⟩
      rw [hnext.out, ← str_app, ← str_app]
    · have hltI : ¬ (i : Int) < (c.W.length : Int) := by omega
      have e : pre ++ encWs (c.W.take i) = encCm c := by rw [List.take_of_length_le (by omega), HE2.out]
      rw [e]
      go_wp2_with (first
        | (guard_target = wpList _ _ _ (⟨some 16, .load _ _, _, _, _, _⟩ :: _) _ _; refine wpl (o := ⟨some 16, .load _ _, _, _, _, _⟩) rfl fun K hK => op_load rfl (ad := ⟨b1, 1, none⟩) rfl (by kernel_rfl) (hs.cell (l := cmC c (.slice A c.W.length ca)) (t := 24) (by (try dsimp only [List.set]); repeat (first | with_reducible exact List.mem_cons_self | with_reducible apply List.mem_cons_of_mem)) rfl) (hK _ _ ?_); clear hK K))
      go_ret
      exact ⟨rfl, hs.pack (by repeat (first | with_reducible exact Pack.refl | with_reducible exact Pack.nil | with_reducible refine Pack.cons (by repeat (first | with_reducible exact Pick.here | with_reducible apply Pick.there)) ?_ | with_reducible apply Pack.drop))⟩
set_option maxRecDepth 100000 in
set_option maxHeartbeats 8000000 in
theorem refputState_spec (W w : World) (L : List HP) (hs : Sat W w L) (s : RSt) (ok : s.Ok) (hW : s.L.length ≤ 1000) (v : Value) (hv : Has L (sliceAt v s.L.length 5 (csC s.L))) :
    Calls Tryd.prog 25 #[.agg (stC s v).toArray] w fun e w' => e = .returned (.string ⟨(encSt s).toArray⟩) ∧ Sat W w' L := by
  obtain ⟨A, ca, rfl, _, _⟩ := slice_form (hs.slice hv)
  have HV := Box.mk hv
  have hts := ok.last
  have hwn := wrap_u32n (s.L.length : Int)
  have hu := u32n_lt (s.L.length : Int)
  obtain ⟨u, hu2⟩ : ∃ u, u32n (s.L.length : Int) = u := ⟨_, rfl⟩
  rw [hu2] at hwn hu
  have HE : Box (encSt s = be 8 (i63 s.last) ++ be 4 s.epoch ++ be 4 s.low ++ be 4 u ++ encCs s.L) := ⟨by unfold encSt; rw [hu2]⟩
  have hWl := Box.mk (fun i => encCs_len (s.L.take i) fun x hx => ok.ls x (List.mem_of_mem_take hx))
  have HOK := Box.mk ok.ls
  have ht1 : -9223372036854775808 ≤ s.last := hts.1
  have ht2 : s.last < 9223372036854775808 := hts.2
  have HEP := Box.mk ok.epoch
  have HLO := Box.mk ok.low
  clear hv ok hu2 hts
  have k1 : ¬ 9223372036854775807 < 12 := by omega
  have k2 : ¬ 9223372036854775807 < 16 := by omega
  have k3 : ¬ 9223372036854775807 < 20 := by omega
  go_enter Tryd.func25, Tryd.ntmps25
  go_wp2_with (first
    | (guard_target = wpList _ _ _ (⟨some 1, .box _ _, _, _, _, _⟩ :: _) _ _; refine wpl (o := ⟨some 1, .box _ _, _, _, _, _⟩) rfl fun K hK => ?_; go_must (refine op_box hs rfl _ rfl (stC s (.slice A s.L.length ca)) rfl fun b1 w1 h => hK _ _ ?_); clear hs hK K; have hs := h; clear h; try dsimp only [List.set] at hs))
  have cS : ∀ w M, Sat W w M → row b1 (stC s (.slice A s.L.length ca)) 39 ∈ M → (rangeS b1 0 (stC s (.slice A s.L.length ca))) w := fun w M h hm => range_whole h hm
  have h6 : ∀ w, (rangeS b1 0 (stC s (.slice A s.L.length ca))) w → w.cell? ⟨b1, 0, none⟩ = some (.int .i64 s.last) := fun w h => h 0 _ rfl
  have h9 : ∀ w, (rangeS b1 0 (stC s (.slice A s.L.length ca))) w → w.cell? ⟨b1, 1, none⟩ = some (.int .u32 (s.epoch : Nat)) := fun w h => h 1 _ rfl
  have h13 : ∀ w, (rangeS b1 0 (stC s (.slice A s.L.length ca))) w → w.cell? ⟨b1, 2, none⟩ = some (.int .u32 (s.low : Nat)) := fun w h => h 2 _ rfl
  have h17 : ∀ w, (rangeS b1 0 (stC s (.slice A s.L.length ca))) w → w.cell? ⟨b1, 3, none⟩ = some (.slice A s.L.length ca) := fun w h => h 3 _ rfl
  have hS0 := cS _ _ hs.drew (by (try dsimp only [List.set]); repeat (first | with_reducible exact List.mem_cons_self | with_reducible apply List.mem_cons_of_mem))
  refine wp_region_tree ((rangeS b1 0 (stC s (.slice A s.L.length ca)))) (.take 0 (.take 1 (.take 3 (.take 4 (.take 7 (.take 8 (.take 11 (.take 12 (.take 13 (.take 14 (.all [(2, .all [(5, .take 6 (.all [(9, .take 10 (.all [(15, .take 16 (.take 17 (DTree.done)))]))]))])]))))))))))) (by kernel_rfl) (by kernel_rfl) (by kernel_rfl) (fun _ _ d _ _ h => by cases d <;> exact h) hS0 ?_
  have hs' := hs.drew
  clear hs
  have hs := hs'
  clear hs'
  have hq := fun p : Prop => class_const hS0 p
  clear hS0
  repeat (first
    | (with_reducible refine tree_load (o := ⟨some 6, .load _ _, _, _, _, _⟩) rfl rfl rfl rfl rfl h6 ?_)
    | (with_reducible refine tree_load (o := ⟨some 9, .load _ _, _, _, _, _⟩) rfl rfl rfl rfl rfl h9 ?_)
    | (with_reducible refine tree_load (o := ⟨some 13, .load _ _, _, _, _, _⟩) rfl rfl rfl rfl rfl h13 ?_)
    | (with_reducible refine tree_load (o := ⟨some 17, .load _ _, _, _, _, _⟩) rfl rfl rfl rfl rfl h17 ?_)
    | (refine tree_take rfl (fun K hK => ?_); go_simp; (first | with_reducible refine hK _ ?_ | (rw [if_neg (by decide)]; with_reducible refine hK _ ?_)); clear hK K))
  refine tree_one_yes (o := _) rfl rfl (fun K hK => ?_) (cS _ _ hs (by (try dsimp only [List.set]); repeat (first | with_reducible exact List.mem_cons_self | with_reducible apply List.mem_cons_of_mem)))
  try go_simp
  go_at_call 51
  refine (rint_spec W _ _ hs s.last ht1 ht2).mono ?_
  clear hs
  rintro e w5 ⟨rfl, hs⟩
  try go_simp
  refine hK _ _ (cS _ _ hs (by (try dsimp only [List.set]); repeat (first | with_reducible exact List.mem_cons_self | with_reducible apply List.mem_cons_of_mem))) ?_
  clear hK K
  refine tree_one_yes (o := _) rfl rfl (fun K hK => ?_) (cS _ _ hs (by (try dsimp only [List.set]); repeat (first | with_reducible exact List.mem_cons_self | with_reducible apply List.mem_cons_of_mem)))
  try go_simp
  go_at_call 52
  refine (rnum_spec W _ _ hs s.epoch HEP.out).mono ?_
  clear hs
  rintro e w5 ⟨rfl, hs⟩
  try go_simp
  refine hK _ _ (cS _ _ hs (by (try dsimp only [List.set]); repeat (first | with_reducible exact List.mem_cons_self | with_reducible apply List.mem_cons_of_mem))) ?_
  clear hK K
  repeat (first
    | (with_reducible refine tree_load (o := ⟨some 6, .load _ _, _, _, _, _⟩) rfl rfl rfl rfl rfl h6 ?_)
    | (with_reducible refine tree_load (o := ⟨some 9, .load _ _, _, _, _, _⟩) rfl rfl rfl rfl rfl h9 ?_)
    | (with_reducible refine tree_load (o := ⟨some 13, .load _ _, _, _, _, _⟩) rfl rfl rfl rfl rfl h13 ?_)
    | (with_reducible refine tree_load (o := ⟨some 17, .load _ _, _, _, _, _⟩) rfl rfl rfl rfl rfl h17 ?_)
    | (refine tree_take rfl (fun K hK => ?_); go_simp; (first | with_reducible refine hK _ ?_ | (rw [if_neg (by decide)]; with_reducible refine hK _ ?_)); clear hK K))
  refine tree_one_yes (o := _) rfl rfl (fun K hK => ?_) (cS _ _ hs (by (try dsimp only [List.set]); repeat (first | with_reducible exact List.mem_cons_self | with_reducible apply List.mem_cons_of_mem)))
  try go_simp
  go_at_call 52
  refine (rnum_spec W _ _ hs s.low HLO.out).mono ?_
  clear hs
  rintro e w5 ⟨rfl, hs⟩
  try go_simp
  refine hK _ _ (cS _ _ hs (by (try dsimp only [List.set]); repeat (first | with_reducible exact List.mem_cons_self | with_reducible apply List.mem_cons_of_mem))) ?_
  clear hK K
  repeat (first
    | (with_reducible refine tree_load (o := ⟨some 6, .load _ _, _, _, _, _⟩) rfl rfl rfl rfl rfl h6 ?_)
    | (with_reducible refine tree_load (o := ⟨some 9, .load _ _, _, _, _, _⟩) rfl rfl rfl rfl rfl h9 ?_)
    | (with_reducible refine tree_load (o := ⟨some 13, .load _ _, _, _, _, _⟩) rfl rfl rfl rfl rfl h13 ?_)
    | (with_reducible refine tree_load (o := ⟨some 17, .load _ _, _, _, _, _⟩) rfl rfl rfl rfl rfl h17 ?_)
    | (refine tree_take rfl (fun K hK => ?_); go_simp; (first | with_reducible refine hK _ ?_ | (rw [if_neg (by decide)]; with_reducible refine hK _ ?_)); clear hK K))
  refine tree_one_yes (o := _) rfl rfl (fun K hK => ?_) (cS _ _ hs (by (try dsimp only [List.set]); repeat (first | with_reducible exact List.mem_cons_self | with_reducible apply List.mem_cons_of_mem)))
  try go_simp
  go_at_call 52
  refine (rnum_spec W _ _ hs u hu).mono ?_
  clear hs
  rintro e w5 ⟨rfl, hs⟩
  try go_simp
  refine hK _ _ (cS _ _ hs (by (try dsimp only [List.set]); repeat (first | with_reducible exact List.mem_cons_self | with_reducible apply List.mem_cons_of_mem))) ?_
  clear hK K
  repeat (first
    | (with_reducible refine tree_load (o := ⟨some 6, .load _ _, _, _, _, _⟩) rfl rfl rfl rfl rfl h6 ?_)
    | (with_reducible refine tree_load (o := ⟨some 9, .load _ _, _, _, _, _⟩) rfl rfl rfl rfl rfl h9 ?_)
    | (with_reducible refine tree_load (o := ⟨some 13, .load _ _, _, _, _, _⟩) rfl rfl rfl rfl rfl h13 ?_)
    | (with_reducible refine tree_load (o := ⟨some 17, .load _ _, _, _, _, _⟩) rfl rfl rfl rfl rfl h17 ?_)
    | (refine tree_take rfl (fun K hK => ?_); go_simp; (first | with_reducible refine hK _ ?_ | (rw [if_neg (by decide)]; with_reducible refine hK _ ?_)); clear hK K))
  refine tree_done ?_
  clear hq
  have e0 : ({ data := (be 8 (i63 s.last)).toArray } : ByteArray) ++ { data := (be 4 s.epoch).toArray } ++ { data := (be 4 s.low).toArray } ++ { data := (be 4 u).toArray } = ⟨(be 8 (i63 s.last) ++ be 4 s.epoch ++ be 4 s.low ++ be 4 u).toArray⟩ := by rw [str_app, str_app, str_app]
  obtain ⟨pre, hpre⟩ : ∃ pre, be 8 (i63 s.last) ++ be 4 s.epoch ++ be 4 s.low ++ be 4 u = pre := ⟨_, rfl⟩
  have hpl : pre.length = 20 := by rw [← hpre]; simp
  rw [hpre] at e0
  have HE2 : Box (encSt s = pre ++ encCs s.L) := ⟨by rw [HE.out, hpre]⟩
  have e1 : ({ data := (be 8 (i63 s.last)).toArray } : ByteArray) ++ { data := (be 4 s.epoch).toArray } ++ { data := (be 4 s.low).toArray } ++ { data := (be 4 u).toArray } = ⟨(pre ++ encCs (s.L.take 0)).toArray⟩ := by rw [e0]; simp [encCs]
  have HE1 := Box.mk e1
  clear HE hpre e0 e1
  go_wp2_with fail
  go_loopw [3, 4] (fun v3 v4 wr => ∃ i : Nat, i ≤ s.L.length ∧ v3 = (.string ⟨(pre ++ encCs (s.L.take i)).toArray⟩) ∧ v4 = .int .i64 (i : Nat) ∧ Sat W wr (row b1 (stC s (.slice A s.L.length ca)) 39 :: L)) (fun _ v4 _ => s.L.length - (intOf v4).toNat)
  case atStart => exact ⟨0, by omega, congrArg Value.string HE1.out, rfl, hs.pack (by repeat (first | with_reducible exact Pack.refl | with_reducible exact Pack.nil | with_reducible refine Pack.cons (by repeat (first | with_reducible exact Pick.here | with_reducible apply Pick.there)) ?_ | with_reducible apply Pack.drop))⟩
  case round =>
    clear hs cS h6 h9 h13 h17 HE1
    obtain ⟨i, hi, rfl, rfl, hs⟩ := hrel
    by_cases hlt : i < s.L.length
    · have hltI : (i : Int) < (s.L.length : Int) := by omega
      have hwi : IntKind.i64.wrap ((i : Int) + 1) = (i : Int) + 1 := by rw [IntKind.wrap_i64]; omega
      obtain ⟨ba, oa, ca', e⟩ := slice_part cC 5 cC_length (by omega) hs (show Has _ (sliceAt (.slice A s.L.length ca) s.L.length 5 (csC s.L)) from (by (try dsimp only [List.set]); repeat (first | exact HV.out | apply Has.tail))) (by omega)
      cases e
      have hr := fun w (M : List HP) (h : Sat W w M) (hM : ∃ M0, M = M0 ++ L) => slice_range cC 5 cC_length h (show Has M (sliceAt (.slice (some ⟨ba, oa, none⟩) s.L.length ca) s.L.length 5 (csC s.L)) from by obtain ⟨M0, e⟩ := hM; rw [e]; exact HV.out.app) i hlt
      have hsn := Box.mk (encCs_snoc s.L i hlt)
      have hwl := hWl.out i
      have hx := HOK.out s.L[i] (List.getElem_mem hlt)
      have htk : (s.L.take i).length ≤ i := by simp; omega
      obtain ⟨acc, hacc⟩ : ∃ acc, pre ++ encCs (s.L.take i) = acc := ⟨_, rfl⟩
      have hal : acc.length ≤ 20 + 2000000022 * 1000 := by
        have : 2000000022 * (s.L.take i).length ≤ 2000000022 * 1000 := Nat.mul_le_mul_left _ (by omega)
        rw [← hacc, List.length_append]; omega
      rw [hacc]
      have HAC := Box.mk hacc
      generalize s.L[i] = x at hr hsn hx
      have htl := text_len x.v
      have hvl : x.v.length ≤ 1000000000 := hx.2.2
      have HKS := Box.mk (fun w (L : List HP) hs => refkey_spec W w L hs x.k)
      have HIS := Box.mk (fun w (L : List HP) hs => rint_spec W w L hs x.ts hx.2.1.1 hx.2.1.2)
      have HTS := Box.mk (fun w (L : List HP) hs => rtext_spec W w L hs x.v (by omega))
      obtain ⟨tx, htx⟩ : ∃ tx, text x.v = tx := ⟨_, rfl⟩
      obtain ⟨ky, hky⟩ : ∃ ky, encK x.k = ky := ⟨_, rfl⟩
      obtain ⟨is, his⟩ : ∃ is, be 8 (i63 x.ts) = is := ⟨_, rfl⟩
      have hkl : ky.length = 12 := by rw [← hky]; exact encK_len _
      have hil : is.length = 8 := by rw [← his]; exact be_length _ _
      rw [htx] at htl HTS
      rw [hky] at HKS
      rw [his] at HIS
      have k1 : ¬ 9223372036854775807 < acc.length + ky.length := by omega
      have k2 : ¬ 9223372036854775807 < acc.length + ky.length + is.length := by omega
      have k3 : ¬ 9223372036854775807 < acc.length + ky.length + is.length + tx.length := by omega
      have hnext : Box (pre ++ encCs (s.L.take (i + 1)) = acc ++ ky ++ is ++ tx) := ⟨by rw [hsn.out, ← List.append_assoc, HAC.out]; unfold encC; rw [htx, hky, his, List.append_assoc, List.append_assoc, List.append_assoc]⟩
      have HR := Box.mk hr
      clear hwl hx htk hacc htx hky his hr hkl hil htl
      have cS : ∀ w M, Sat W w M → row b1 (stC s (.slice (some ⟨ba, oa, none⟩) s.L.length ca)) 39 ∈ M → (∃ M0, M = M0 ++ L) → (rpS b1 3 (.slice (some ⟨ba, oa, none⟩) s.L.length ca) ba (oa + i * 5) (cC x)) w := fun w M h h1 h2 => ⟨h.cell h1 rfl, HR.out w M h h2⟩
      have h31 : ∀ w, (rpS b1 3 (.slice (some ⟨ba, oa, none⟩) s.L.length ca) ba (oa + i * 5) (cC x)) w → w.cell? ⟨b1, 3, none⟩ = some (.slice (some ⟨ba, oa, none⟩) s.L.length ca) := fun w h => h.1
      have h35 : ∀ w, (rpS b1 3 (.slice (some ⟨ba, oa, none⟩) s.L.length ca) ba (oa + i * 5) (cC x)) w → w.rangeAt ba (oa + i * 5) (kC x.k) := fun w h => range_pre (ds := [.int .i64 x.ts, (.string ⟨(x.v).toArray⟩)]) h.2
      have h43 : ∀ w, (rpS b1 3 (.slice (some ⟨ba, oa, none⟩) s.L.length ca) ba (oa + i * 5) (cC x)) w → w.cell? ⟨ba, oa + i * 5 + 3, none⟩ = some (.int .i64 x.ts) := fun w h => h.2 3 _ rfl
      have h51 : ∀ w, (rpS b1 3 (.slice (some ⟨ba, oa, none⟩) s.L.length ca) ba (oa + i * 5) (cC x)) w → w.cell? ⟨ba, oa + i * 5 + 4, none⟩ = some (.string ⟨(x.v).toArray⟩) := fun w h => h.2 4 _ rfl
      go_wp2_with (first
        | (guard_target = wpList _ _ _ (⟨some 24, .load _ _, _, _, _, _⟩ :: _) _ _; refine wpl (o := ⟨some 24, .load _ _, _, _, _, _⟩) rfl fun K hK => op_load rfl (ad := ⟨b1, 3, none⟩) rfl (by kernel_rfl) (hs.cell (l := stC s (.slice (some ⟨ba, oa, none⟩) s.L.length ca)) (t := 39) (by (try dsimp only [List.set]); repeat (first | with_reducible exact List.mem_cons_self | with_reducible apply List.mem_cons_of_mem)) rfl) (hK _ _ ?_); clear hK K))
      have hS0 := cS _ _ hs.drew (by (try dsimp only [List.set]); repeat (first | with_reducible exact List.mem_cons_self | with_reducible apply List.mem_cons_of_mem)) ⟨[_], rfl⟩
      refine wp_region_tree ((rpS b1 3 (.slice (some ⟨ba, oa, none⟩) s.L.length ca) ba (oa + i * 5) (cC x))) (.take 0 (.take 1 (.take 2 (.take 3 (.take 4 (.take 5 (.take 6 (.take 9 (.take 10 (.take 11 (.take 12 (.take 13 (.take 14 (.take 17 (.take 18 (.take 19 (.take 20 (.take 21 (.take 22 (.all [(7, .take 8 (.all [(15, .take 16 (.all [(23, .take 24 (.take 25 (DTree.done)))]))]))])))))))))))))))))))) (by kernel_rfl) (by kernel_rfl) (by kernel_rfl) (fun _ _ d _ _ h => by cases d <;> exact h) hS0 ?_
      have hs' := hs.drew
      clear hs
      have hs := hs'
      clear hs'
      have hq := fun p : Prop => class_const hS0 p
      clear hS0
      repeat (first
        | (with_reducible refine tree_load (o := ⟨some 31, .load _ _, _, _, _, _⟩) rfl rfl rfl rfl rfl h31 ?_)
        | (with_reducible refine tree_load_agg (o := ⟨some 35, .load _ _, _, _, _, _⟩) (kC x.k) rfl rfl rfl rfl ?_ ?_ h35 ?_; (kernel_rfl); (kernel_rfl))
        | (with_reducible refine tree_load (o := ⟨some 39, .load _ _, _, _, _, _⟩) rfl rfl rfl rfl rfl h31 ?_)
        | (with_reducible refine tree_load (o := ⟨some 43, .load _ _, _, _, _, _⟩) rfl rfl rfl rfl rfl h43 ?_)
        | (with_reducible refine tree_load (o := ⟨some 47, .load _ _, _, _, _, _⟩) rfl rfl rfl rfl rfl h31 ?_)
        | (with_reducible refine tree_load (o := ⟨some 51, .load _ _, _, _, _, _⟩) rfl rfl rfl rfl rfl h51 ?_)
        | (refine tree_take rfl (fun K hK => ?_); go_simp; (first | with_reducible refine hK _ ?_ | (rw [if_neg (by decide)]; with_reducible refine hK _ ?_)); clear hK K))
      refine tree_one_yes (o := _) rfl rfl (fun K hK => ?_) (cS _ _ hs (by (try dsimp only [List.set]); repeat (first | with_reducible exact List.mem_cons_self | with_reducible apply List.mem_cons_of_mem)) ⟨[_], rfl⟩)
      try go_simp
      go_at_call 53
      refine (HKS.out _ _ hs).mono ?_
      clear hs
      rintro e w5 ⟨rfl, hs⟩
      try go_simp
      refine hK _ _ (cS _ _ hs (by (try dsimp only [List.set]); repeat (first | with_reducible exact List.mem_cons_self | with_reducible apply List.mem_cons_of_mem)) ⟨[_], rfl⟩) ?_
      clear hK K
      repeat (first
        | (with_reducible refine tree_load (o := ⟨some 31, .load _ _, _, _, _, _⟩) rfl rfl rfl rfl rfl h31 ?_)
        | (with_reducible refine tree_load_agg (o := ⟨some 35, .load _ _, _, _, _, _⟩) (kC x.k) rfl rfl rfl rfl ?_ ?_ h35 ?_; (kernel_rfl); (kernel_rfl))
        | (with_reducible refine tree_load (o := ⟨some 39, .load _ _, _, _, _, _⟩) rfl rfl rfl rfl rfl h31 ?_)
        | (with_reducible refine tree_load (o := ⟨some 43, .load _ _, _, _, _, _⟩) rfl rfl rfl rfl rfl h43 ?_)
        | (with_reducible refine tree_load (o := ⟨some 47, .load _ _, _, _, _, _⟩) rfl rfl rfl rfl rfl h31 ?_)
        | (with_reducible refine tree_load (o := ⟨some 51, .load _ _, _, _, _, _⟩) rfl rfl rfl rfl rfl h51 ?_)
        | (refine tree_take rfl (fun K hK => ?_); go_simp; (first | with_reducible refine hK _ ?_ | (rw [if_neg (by decide)]; with_reducible refine hK _ ?_)); clear hK K))
      refine tree_one_yes (o := _) rfl rfl (fun K hK => ?_) (cS _ _ hs (by (try dsimp only [List.set]); repeat (first | with_reducible exact List.mem_cons_self | with_reducible apply List.mem_cons_of_mem)) ⟨[_], rfl⟩)
      try go_simp
      go_at_call 51
      refine (HIS.out _ _ hs).mono ?_
      clear hs
      rintro e w5 ⟨rfl, hs⟩
      try go_simp
      refine hK _ _ (cS _ _ hs (by (try dsimp only [List.set]); repeat (first | with_reducible exact List.mem_cons_self | with_reducible apply List.mem_cons_of_mem)) ⟨[_], rfl⟩) ?_
      clear hK K
      repeat (first
        | (with_reducible refine tree_load (o := ⟨some 31, .load _ _, _, _, _, _⟩) rfl rfl rfl rfl rfl h31 ?_)
        | (with_reducible refine tree_load_agg (o := ⟨some 35, .load _ _, _, _, _, _⟩) (kC x.k) rfl rfl rfl rfl ?_ ?_ h35 ?_; (kernel_rfl); (kernel_rfl))
        | (with_reducible refine tree_load (o := ⟨some 39, .load _ _, _, _, _, _⟩) rfl rfl rfl rfl rfl h31 ?_)
        | (with_reducible refine tree_load (o := ⟨some 43, .load _ _, _, _, _, _⟩) rfl rfl rfl rfl rfl h43 ?_)
        | (with_reducible refine tree_load (o := ⟨some 47, .load _ _, _, _, _, _⟩) rfl rfl rfl rfl rfl h31 ?_)
        | (with_reducible refine tree_load (o := ⟨some 51, .load _ _, _, _, _, _⟩) rfl rfl rfl rfl rfl h51 ?_)
        | (refine tree_take rfl (fun K hK => ?_); go_simp; (first | with_reducible refine hK _ ?_ | (rw [if_neg (by decide)]; with_reducible refine hK _ ?_)); clear hK K))
      refine tree_one_yes (o := _) rfl rfl (fun K hK => ?_) (cS _ _ hs (by (try dsimp only [List.set]); repeat (first | with_reducible exact List.mem_cons_self | with_reducible apply List.mem_cons_of_mem)) ⟨[_], rfl⟩)
      try go_simp
      go_at_call 54
      refine (HTS.out _ _ hs).mono ?_
      clear hs
      rintro e w5 ⟨rfl, hs⟩
      try go_simp
      refine hK _ _ (cS _ _ hs (by (try dsimp only [List.set]); repeat (first | with_reducible exact List.mem_cons_self | with_reducible apply List.mem_cons_of_mem)) ⟨[_], rfl⟩) ?_
      clear hK K
      repeat (first
        | (with_reducible refine tree_load (o := ⟨some 31, .load _ _, _, _, _, _⟩) rfl rfl rfl rfl rfl h31 ?_)
        | (with_reducible refine tree_load_agg (o := ⟨some 35, .load _ _, _, _, _, _⟩) (kC x.k) rfl rfl rfl rfl ?_ ?_ h35 ?_; (kernel_rfl); (kernel_rfl))
        | (with_reducible refine tree_load (o := ⟨some 39, .load _ _, _, _, _, _⟩) rfl rfl rfl rfl rfl h31 ?_)
        | (with_reducible refine tree_load (o := ⟨some 43, .load _ _, _, _, _, _⟩) rfl rfl rfl rfl rfl h43 ?_)
        | (with_reducible refine tree_load (o := ⟨some 47, .load _ _, _, _, _, _⟩) rfl rfl rfl rfl rfl h31 ?_)
        | (with_reducible refine tree_load (o := ⟨some 51, .load _ _, _, _, _, _⟩) rfl rfl rfl rfl rfl h51 ?_)
        | (refine tree_take rfl (fun K hK => ?_); go_simp; (first | with_reducible refine hK _ ?_ | (rw [if_neg (by decide)]; with_reducible refine hK _ ?_)); clear hK K))
      refine tree_done ?_
      clear hq
      go_wp2_with fail
      refine ⟨⟨i + 1, by omega, ?_, by go_num, hs⟩, by simp only [intOf]; omega⟩
      rw [hnext.out, ← str_app, ← str_app, ← str_app]
    · have hltI : ¬ (i : Int) < (s.L.length : Int) := by omega
      have e : pre ++ encCs (s.L.take i) = encSt s := by rw [List.take_of_length_le (by omega), HE2.out]
      rw [e]
      go_wp2_with (first
        | (guard_target = wpList _ _ _ (⟨some 24, .load _ _, _, _, _, _⟩ :: _) _ _; refine wpl (o := ⟨some 24, .load _ _, _, _, _, _⟩) rfl fun K hK => op_load rfl (ad := ⟨b1, 3, none⟩) rfl (by kernel_rfl) (hs.cell (l := stC s (.slice A s.L.length ca)) (t := 39) (by (try dsimp only [List.set]); repeat (first | with_reducible exact List.mem_cons_self | with_reducible apply List.mem_cons_of_mem)) rfl) (hK _ _ ?_); clear hK K))
      go_ret
      exact ⟨rfl, hs.pack (by repeat (first | with_reducible exact Pack.refl | with_reducible exact Pack.nil | with_reducible refine Pack.cons (by repeat (first | with_reducible exact Pick.here | with_reducible apply Pick.there)) ?_ | with_reducible apply Pack.drop))⟩
end Go.Proofs.YthjnefpnnifjiaaDoor
