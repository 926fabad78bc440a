/- The contract of the law's run (layer 7). -/
import Derived.Test.YtimknlabhhopcaaScRunP
import Derived.Test.YtimknlabhhopcaaRgApp
import Derived.Test.YtimknlabhhopcaaVdNew
import Derived.Test.YtimknlabhhopcaaVdSync
set_option linter.unusedVariables false
set_option linter.unusedSimpArgs false
namespace Go.Proofs.Ytimknlabhhopcaa
open Go.RowKit
section
variable {P : Program} {ops : Array Oper} {Q : Exit → Act → World → Prop} {S : World → Prop}
theorem tree_str {i : Nat} {t : DTree} {o : Oper} {a : Act} {w : World} {src dst e : TypeId} {x : Operand} {v : Value} (l : List UInt8) (ho : ops[i]? = some o) (hw : Region.wanted o (yielded ops a.tmps) = true) (hop : o.op = .convert src dst x) (hs : P.underlying src = some (.slice e)) (he : P.underlying e = some (.int .u8)) (hd : P.underlying dst = some .string) (hx : a.eval x = v) (hc : ∀ w, S w → bytesAt v l (hp w))
    (h : wpTree P ops Q S t (a.put o.dst (.string ⟨l.toArray⟩)) w) : wpTree P ops Q S (.take i t) a w :=
  tree_take_val ho hw (fun w hC => by simp only [execOp, hop, hx, Sem.run_bind, run_to_string hs he hd (hc w hC), Result.andThen_ok, Sem.run_pure]) h
end
def c1S (b i : Nat) (v : Value) (w : World) : Prop := w.cell? ⟨b, i, none⟩ = some v
def r12S (bd o : Nat) (ds : List Value) (v : Value) (l : List UInt8) (w : World) : Prop := w.rangeAt bd o ds ∧ bytesAt v l (hp w)
def r15S (bd o : Nat) (ds : List Value) (w : World) : Prop := w.rangeAt bd o ds
def rnS (bm : Nat) (cs : List Value) (bd o : Nat) (ds : List Value) (w : World) : Prop := w.rangeAt bm 0 cs ∧ w.rangeAt bd o ds
def scrunPost (s : Md) (W : World) (L : List HP) (e : Ending) (w' : World) : Prop := ∃ b br v2 v3, e = .returned (.agg (mdCells b br v2 v3 s.sy).toArray) ∧ Sat W w' (sl1 v2 s.rl.length (rcsS s.rl) :: sl1 v3 s.rl.length (rcsN s.rl) :: rg br b s.R :: disk b s.R.D :: L)
/-- A leaf of a walk that is cut into several declarations. -/
structure ScRunLeaf (p : Prop) : Prop where
  out : p
structure ScRunCut1 (M : Prop) where
  p1 : Prop
  go : ScRunLeaf p1 → M
structure ScRunCut6 (M : Prop) where
  p1 : Prop
  p2 : Prop
  p3 : Prop
  p4 : Prop
  p5 : Prop
  p6 : Prop
  go : ScRunLeaf p1 → ScRunLeaf p2 → ScRunLeaf p3 → ScRunLeaf p4 → ScRunLeaf p5 → ScRunLeaf p6 → M
structure ScRunCut8 (M : Prop) where
  p1 : Prop
  p2 : Prop
  p3 : Prop
  p4 : Prop
  p5 : Prop
  p6 : Prop
  p7 : Prop
  p8 : Prop
  go : ScRunLeaf p1 → ScRunLeaf p2 → ScRunLeaf p3 → ScRunLeaf p4 → ScRunLeaf p5 → ScRunLeaf p6 → ScRunLeaf p7 → ScRunLeaf p8 → M
set_option maxRecDepth 100000 in
set_option maxHeartbeats 16000000 in
noncomputable def scrun_spec_cut : ScRunCut1 (∀ (W w : World) (L : List HP) (hs : Sat W w L) (hold : old W ∈ L) (v : Value) (l : List RDeed) (h : rdeedsAt v l (hp W)) (hsm : Small l), Calls Try.prog 23 #[v] w (scrunPost (mdRun l) W L)) := by
  apply ScRunCut1.mk
  case go =>
    intro K_scrun_spec_a W w L hs hold v l h hsm
    obtain ⟨A, cap, rfl, hl1, hl2, hl3⟩ := rdeeds_form h
    have hinv := Box.mk (mdRun_inv l hsm)
    have hsmall := Box.mk hsm.2
    have hlen := hsm.1
    clear hsm
    obtain ⟨D0, hD0⟩ : ∃ D0, Dk.new 12 = D0 := ⟨_, rfl⟩
    have hR0 : Box ((⟨D0, 2, 8, 3, 0, 0⟩ : Rg) = (mdRun (l.take 0)).R) := ⟨by rw [← hD0]; rfl⟩
    have hmay : Box (RgMay D0.secs.length ((2 : Nat) : Int) ((8 : Nat) : Int) 0 0) := ⟨by rw [← hD0]; simp [Dk.new, RgMay]⟩
    have HD0 := Box.mk hD0
    clear hD0
    go_enter Try.func23, Try.ntmps23
    go_wp2_with (first
      | (guard_target = wpList _ _ _ (⟨some 2, .alloc _, _, _, _, _⟩ :: _) _ _; refine wpl (o := ⟨some 2, .alloc _, _, _, _, _⟩) rfl fun K hK => ?_; go_must (refine op_alloc hs rfl _ zmade zmd rfl fun b2 w1 h => hK _ _ ?_); clear hs hK K; have hs := h; clear h; try dsimp only [List.set] at hs)
      | (go_at_call 16; go_must (refine (new_spec W _ _ hs 12 (by omega) (by omega)).mono ?_); clear hs; rintro e w1 ⟨b1, rfl, hs⟩; rw [HD0.out] at hs)
      | (guard_target = wpList _ _ _ (⟨some 3, .alloc _, _, _, _, _⟩ :: _) _ _; refine wpl (o := ⟨some 3, .alloc _, _, _, _, _⟩) rfl fun K hK => ?_; go_must (refine op_alloc hs rfl _ zmade zmd rfl fun bm w1 h => hK _ _ ?_); clear hs hK K; have hs := h; clear h; try dsimp only [List.set] at hs)
      | (guard_target = wpList _ _ _ (⟨none, .store _ (.tmp 3) _, _, _, _, _⟩ :: _) _ _; refine wpl (o := ⟨none, .store _ (.tmp 3) _, _, _, _, _⟩) rfl fun K hK => ?_; go_must (refine op_store_whole (hs.pick (A := row bm zmd 56) (by repeat (first | with_reducible exact Pick.here | with_reducible apply Pick.there))) (b := bm) rfl rfl [.pointer (some ⟨b1, 0, none⟩), .pointer none, .slice none 0 0, .slice none 0 0, .int .i64 0] rfl (by simp [Value.oneCell']) (by kernel_rfl) (k := 0) rfl rfl fun w3 h => hK _ _ ?_); clear hs hK K; have hs := h; clear h; try dsimp only [List.set] at hs))
    have cS0 : ∀ w M x, Sat W w M → row bm [.pointer (some ⟨b1, 0, none⟩), x, .slice none 0 0, .slice none 0 0, .int .i64 0] 56 ∈ M → c1S bm 0 (.pointer (some ⟨b1, 0, none⟩)) w := fun w M x h hm => h.cell hm rfl
    have dc : ∀ w, c1S bm 0 (.pointer (some ⟨b1, 0, none⟩)) w → w.cell? ⟨bm, 0, none⟩ = some (.pointer (some ⟨b1, 0, none⟩)) := fun w h => h
    have hS0 := cS0 _ _ _ hs.drew (by (try dsimp only [List.set]); repeat (first | with_reducible exact List.mem_cons_self | with_reducible apply List.mem_cons_of_mem))
    refine wp_region_tree (c1S bm 0 (.pointer (some ⟨b1, 0, none⟩))) (.take 0 (.take 1 (.all [(2, .all [(3, .take 4 (.all [(5, DTree.done)]))])]))) (by kernel_rfl) (by kernel_rfl) (by kernel_rfl) (fun _ _ d _ _ h => by cases d <;> exact h) hS0 ?_
    have hs' := hs.drew
    clear hs
    have hs := hs'
    clear hs'
    have hq := fun p : Prop => class_const hS0 p
    clear hS0
    repeat (first
      | (with_reducible refine tree_load (o := ⟨some 10, .load _ _, _, _, _, _⟩) rfl rfl rfl rfl rfl dc ?_)
      | (refine tree_take rfl (fun K hK => ?_); go_simp; (first | with_reducible refine hK _ ?_ | (rw [if_neg (by decide)]; with_reducible refine hK _ ?_)); clear hK K))
    refine tree_one_yes (o := _) rfl rfl (fun K hK => ?_) (cS0 _ _ _ hs (by (try dsimp only [List.set]); repeat (first | with_reducible exact List.mem_cons_self | with_reducible apply List.mem_cons_of_mem)))
    try go_simp
    go_at_call 25
    refine (scplace_spec W _ _ hs).mono ?_
    clear hs
    rintro e w5 ⟨rfl, hs⟩
    try go_simp
    refine hK _ _ (cS0 _ _ _ hs (by (try dsimp only [List.set]); repeat (first | with_reducible exact List.mem_cons_self | with_reducible apply List.mem_cons_of_mem))) ?_
    clear hK K
    refine tree_one_yes (o := _) rfl rfl (fun K hK => ?_) (cS0 _ _ _ hs (by (try dsimp only [List.set]); repeat (first | with_reducible exact List.mem_cons_self | with_reducible apply List.mem_cons_of_mem)))
    try go_simp
    go_at_call 45
    refine (rgnew_some W _ _ b1 D0 (hs.pick (A := disk b1 D0) (by repeat (first | with_reducible exact Pick.here | with_reducible apply Pick.there))) 2 8 3 0 0 (by decide) hmay.out).mono ?_
    clear hs
    rintro e w5 ⟨br, rfl, hs⟩
    rw [hR0.out] at hs
    try go_simp
    refine hK _ _ (cS0 _ _ _ hs (by (try dsimp only [List.set]); repeat (first | with_reducible exact List.mem_cons_self | with_reducible apply List.mem_cons_of_mem))) ?_
    clear hK K
    repeat (first
      | (with_reducible refine tree_load (o := ⟨some 10, .load _ _, _, _, _, _⟩) rfl rfl rfl rfl rfl dc ?_)
      | (refine tree_take rfl (fun K hK => ?_); go_simp; (first | with_reducible refine hK _ ?_ | (rw [if_neg (by decide)]; with_reducible refine hK _ ?_)); clear hK K))
    refine tree_one_yes (o := _) rfl rfl (fun K hK => ?_) (cS0 _ _ _ hs (by (try dsimp only [List.set]); repeat (first | with_reducible exact List.mem_cons_self | with_reducible apply List.mem_cons_of_mem)))
    refine op_store (hs.pick (A := row bm [.pointer (some ⟨b1, 0, none⟩), .pointer none, .slice none 0 0, .slice none 0 0, .int .i64 0] 56) (by repeat (first | with_reducible exact Pick.here | with_reducible apply Pick.there))) rfl (b := bm) (i := 1) (v := .pointer (some ⟨br, 0, none⟩)) rfl rfl rfl (by kernel_rfl) (k := 0) rfl (by simp) fun w3 h => hK _ _ (cS0 _ _ _ h (by (try dsimp only [List.set]); repeat (first | with_reducible exact List.mem_cons_self | with_reducible apply List.mem_cons_of_mem))) ?_
    clear hs hK K
    have hs := h
    clear h
    try dsimp only [List.set] at hs
    try go_simp
    refine tree_done ?_
    clear hq
    have hs1 := ((((hs.addNil none 9 1).sub (i := 0) rfl (B := sl1 (.slice none 0 0) 0 []) fun F hF => own_sliceAt F hF).addNil none 23 1).sub (i := 0) rfl (B := sl1 (.slice none 0 0) 0 []) fun F hF => own_sliceAt F hF)
    dsimp only [List.set] at hs1
    change Sat W _ (sl1 (.slice none 0 0) 0 [] :: sl1 (.slice none 0 0) 0 [] :: row bm (mdCells b1 br (.slice none 0 0) (.slice none 0 0) 0) 56 :: rg br b1 (mdRun (l.take 0)).R :: disk b1 D0 :: row b2 zmd 56 :: L) at hs1
    have hs2 := hs1.pack (L := row bm (mdCells b1 br (.slice none 0 0) (.slice none 0 0) (mdRun (l.take 0)).sy) 56 :: sl1 (.slice none 0 0) 0 [] :: sl1 (.slice none 0 0) 0 [] :: rg br b1 (mdRun (l.take 0)).R :: disk b1 (mdRun (l.take 0)).R.D :: row b2 zmd 56 :: L) (by
      rw [show (mdRun (l.take 0)).sy = 0 from rfl, show (mdRun (l.take 0)).R.D = D0 by rw [← hR0.out]]
      exact (by repeat (first | with_reducible exact Pack.refl | with_reducible exact Pack.nil | with_reducible refine Pack.cons (by repeat (first | with_reducible exact Pick.here | with_reducible apply Pick.there)) ?_ | with_reducible apply Pack.drop)))
    clear hs hs1
    have hs := hs2
    clear hs2
    go_wp2_with fail
    rename_i x1_1 x1_2 x1_3 x1_4 x1_5 x1_6
    revert W w L hold l A cap h hl1 hl2 hl3 hinv hsmall hlen D0 hR0 hmay HD0 b2 x1_1 x1_2 b1 bm w1 x1_3 cS0 dc x1_4 w5 br w3 hs x1_5 x1_6
    exact K_scrun_spec_a.out
set_option maxRecDepth 100000 in
set_option maxHeartbeats 16000000 in
noncomputable def scrun_spec_a_cut : ScRunCut1 (scrun_spec_cut.p1) := by
  apply ScRunCut1.mk
  case go =>
    intro K_scrun_spec_a_b W w L hold l A cap h hl1 hl2 hl3 hinv hsmall hlen D0 hR0 hmay HD0 b2 x1_1 x1_2 b1 bm w1 x1_3 cS0 dc x1_4 w5 br w3 hs x1_5 x1_6
    go_loopw [4] (fun v4 wr => ∃ (k : Nat) (v2 v3 : Value), k ≤ l.length ∧ v4 = .int .i64 (k : Nat) ∧ Sat W wr (row bm (mdCells b1 br v2 v3 (mdRun (l.take k)).sy) 56 :: sl1 v2 (mdRun (l.take k)).rl.length (rcsS (mdRun (l.take k)).rl) :: sl1 v3 (mdRun (l.take k)).rl.length (rcsN (mdRun (l.take k)).rl) :: rg br b1 (mdRun (l.take k)).R :: disk b1 (mdRun (l.take k)).R.D :: row b2 zmd 56 :: L)) (fun v4 _ => l.length - (intOf v4).toNat)
    case atStart => exact ⟨0, _, _, by omega, rfl, hs⟩
    case round =>
      revert W w L hold l A cap h hl1 hl2 hl3 hinv hsmall hlen D0 hR0 hmay HD0 b2 x1_1 x1_2 b1 bm w1 x1_3 cS0 dc x1_4 w5 br w3 hs x1_5 x1_6 wr u4 u5 u6 u14 u15 u16 u17 u18 u19 u20 u21 u22 u23 u24 u25 u26 u27 u28 u29 u30 u31 u32 u33 u34 u35 u36 u37 u38 u39 u40 u41 u42 u43 u44 u45 u46 u47 u48 u49 u50 u51 u52 u53 u54 u55 u56 u57 u58 u59 u60 u61 u62 u63 u64 u65 u66 u67 u68 u69 u70 u71 u72 u73 u74 u75 u76 u77 u78 u79 u80 u81 u82 u83 u84 u85 u86 hrel
      exact K_scrun_spec_a_b.out
set_option maxRecDepth 100000 in
set_option maxHeartbeats 16000000 in
noncomputable def scrun_spec_a_b_cut : ScRunCut6 (scrun_spec_a_cut.p1) := by
  apply ScRunCut6.mk
  case go =>
    intro K_scrun_spec_a_b_c K_scrun_spec_a_b_f K_scrun_spec_a_b_g K_scrun_spec_a_b_h K_scrun_spec_a_b_i K_scrun_spec_a_b_j W w L hold l A cap h hl1 hl2 hl3 hinv hsmall hlen D0 hR0 hmay HD0 b2 x1_1 x1_2 b1 bm w1 x1_3 cS0 dc x1_4 w5 br w3 hs x1_5 x1_6 wr u4 u5 u6 u14 u15 u16 u17 u18 u19 u20 u21 u22 u23 u24 u25 u26 u27 u28 u29 u30 u31 u32 u33 u34 u35 u36 u37 u38 u39 u40 u41 u42 u43 u44 u45 u46 u47 u48 u49 u50 u51 u52 u53 u54 u55 u56 u57 u58 u59 u60 u61 u62 u63 u64 u65 u66 u67 u68 u69 u70 u71 u72 u73 u74 u75 u76 u77 u78 u79 u80 u81 u82 u83 u84 u85 u86 hrel
    clear hs
    obtain ⟨k, v2, v3, hk, rfl, hs⟩ := hrel
    have hfin : k = l.length → mdRun (l.take k) = mdRun l := fun e => by rw [e, List.take_length]
    have hsn := fun h => mdRun_snoc l k h
    have hB := hinv.out k hk
    generalize hst : mdRun (l.take k) = st at *
    obtain ⟨R, rl, sy⟩ := st
    have HF := Box.mk hfin
    have HS := Box.mk hsn
    clear hfin hsn hst
    simp only at hs
    have hI := Box.mk hB.inv
    have ok := hB.inv.ok
    have hrow : R.D.row.length ≤ 8 * k := hB.rows
    have hcnt : rl.length ≤ k := hB.cnt
    have hsy : sy ≤ rl.length := hB.inv.few
    clear hB
    obtain ⟨A2, c2, rfl, _, _⟩ := slice_form (hs.slice (Has.mem m1 fun F h => h))
    obtain ⟨A3, c3, rfl, _, _⟩ := slice_form (hs.slice (Has.mem m2 fun F h => h))
    by_cases hlt : k < l.length
    · have hltI : (k : Int) < (l.length : Int) := by omega
      obtain ⟨bd, od, cd, vb, e, hrg, hb⟩ := rdeeds_old h k hlt
      cases e
      have hS := HS.out hlt
      have hc4 := hsmall.out l[k] (List.getElem_mem hlt)
      generalize l[k] = c at hrg hb hS hc4
      obtain ⟨Ab, cb, rfl, _, _⟩ := slice_form (hs.slice (has_w (by (try dsimp only [List.set]); repeat (first | exact hold | apply List.mem_cons_of_mem)) hb))
      obtain ⟨kind, rec, n⟩ := c
      simp only at hrg hb hc4
      have HSS := Box.mk hS
      clear hS
      have k20 : wr.cell? ⟨bm, 1, none⟩ = some (.pointer (some ⟨br, 0, none⟩)) := hs.cell (l := (mdCells b1 br (.slice A2 rl.length c2) (.slice A3 rl.length c3) sy)) (t := 56) (by (try dsimp only [List.set]); repeat (first | with_reducible exact List.mem_cons_self | with_reducible apply List.mem_cons_of_mem)) rfl
      have k29 : wr.cell? ⟨bd, od + k * 3, none⟩ = some (.int .i64 kind) := rold_range hs (by (try dsimp only [List.set]); repeat (first | exact hold | apply List.mem_cons_of_mem)) hrg (by simp [rdCells]) 0 _ rfl
      by_cases h1 : kind = 1
      · subst h1
        obtain ⟨R', hR'⟩ : ∃ R', R.append rec = R' := ⟨_, rfl⟩
        obtain ⟨cd0, hcd⟩ : ∃ x, R.code rec = x := ⟨_, rfl⟩
        by_cases h0 : cd0 = 0
        · subst h0
          rename_i x3_1 x3_2 x3_3 x3_4 x3_5 x3_6
          revert W w L hold l cap hl1 hl2 hl3 hinv hsmall hlen D0 hR0 hmay HD0 b2 x1_1 x1_2 b1 bm w1 x1_3 cS0 dc x1_4 w5 br w3 x1_5 x1_6 wr u5 u6 u14 u15 u16 u17 u18 u19 u20 u21 u22 u23 u24 u25 u26 u27 u28 u29 u30 u31 u32 u33 u34 u35 u36 u37 u38 u39 u40 u41 u42 u43 u44 u45 u46 u47 u48 u49 u50 u51 u52 u53 u54 u55 u56 u57 u58 u59 u60 u61 u62 u63 u64 u65 u66 u67 u68 u69 u70 u71 u72 u73 u74 u75 u76 u77 u78 u79 u80 u81 u82 u83 u84 u85 u86 k hk R rl sy HF HS hI ok hrow hcnt hsy A2 c2 x3_1 x3_2 A3 c3 hs x3_3 x3_4 hlt hltI bd od h Ab cb x3_5 rec n hc4 hb k20 hrg x3_6 HSS k29 R' hR' hcd
          exact K_scrun_spec_a_b_c.out
        · have hneI : ((cd0 : Int) == 0) = false := by simp [h0]
          rename_i x3_1 x3_2 x3_3 x3_4 x3_5 x3_6
          revert W w L hold l cap hl1 hl2 hl3 hinv hsmall hlen D0 hR0 hmay HD0 b2 x1_1 x1_2 b1 bm w1 x1_3 cS0 dc x1_4 w5 br w3 x1_5 x1_6 wr u5 u6 u14 u15 u16 u17 u18 u19 u20 u21 u22 u23 u24 u25 u26 u27 u28 u29 u30 u31 u32 u33 u34 u35 u36 u37 u38 u39 u40 u41 u42 u43 u44 u45 u46 u47 u48 u49 u50 u51 u52 u53 u54 u55 u56 u57 u58 u59 u60 u61 u62 u63 u64 u65 u66 u67 u68 u69 u70 u71 u72 u73 u74 u75 u76 u77 u78 u79 u80 u81 u82 u83 u84 u85 u86 k hk R rl sy HF HS hI ok hrow hcnt hsy A2 c2 x3_1 x3_2 A3 c3 hs x3_3 x3_4 hlt hltI bd od h Ab cb x3_5 rec n hc4 hb k20 hrg x3_6 HSS k29 R' hR' cd0 hcd h0 hneI
          exact K_scrun_spec_a_b_f.out
      · by_cases h2 : kind = 2
        · subst h2
          have hn8 := n.toNat_lt
          have hwn : IntKind.i64.wrap (n.toNat : Int) = (n.toNat : Int) := by rw [IntKind.wrap_i64]; omega
          by_cases hmn : rl.length < n.toNat
          · have hmnI : (rl.length : Int) < (n.toNat : Int) := by omega
            rename_i x3_1 x3_2 x3_3 x3_4 x3_5 x3_6
            revert W w L hold l cap hl1 hl2 hl3 hinv hsmall hlen D0 hR0 hmay HD0 b2 x1_1 x1_2 b1 bm w1 x1_3 cS0 dc x1_4 w5 br w3 x1_5 x1_6 wr u5 u6 u14 u15 u16 u17 u18 u19 u20 u21 u22 u23 u24 u25 u26 u27 u28 u29 u30 u31 u32 u33 u34 u35 u36 u37 u38 u39 u40 u41 u42 u43 u44 u45 u46 u47 u48 u49 u50 u51 u52 u53 u54 u55 u56 u57 u58 u59 u60 u61 u62 u63 u64 u65 u66 u67 u68 u69 u70 u71 u72 u73 u74 u75 u76 u77 u78 u79 u80 u81 u82 u83 u84 u85 u86 k hk R rl sy HF HS hI ok hrow hcnt hsy A2 c2 x3_1 x3_2 A3 c3 hs x3_3 x3_4 hlt hltI bd od h Ab cb x3_5 rec n hc4 hb k20 hrg x3_6 HSS k29 h1 hn8 hwn hmn hmnI
            exact K_scrun_spec_a_b_g.out
          · have hmnI : ¬ (rl.length : Int) < (n.toNat : Int) := by omega
            rename_i x3_1 x3_2 x3_3 x3_4 x3_5 x3_6
            revert W w L hold l cap hl1 hl2 hl3 hinv hsmall hlen D0 hR0 hmay HD0 b2 x1_1 x1_2 b1 bm w1 x1_3 cS0 dc x1_4 w5 br w3 x1_5 x1_6 wr u5 u6 u14 u15 u16 u17 u18 u19 u20 u21 u22 u23 u24 u25 u26 u27 u28 u29 u30 u31 u32 u33 u34 u35 u36 u37 u38 u39 u40 u41 u42 u43 u44 u45 u46 u47 u48 u49 u50 u51 u52 u53 u54 u55 u56 u57 u58 u59 u60 u61 u62 u63 u64 u65 u66 u67 u68 u69 u70 u71 u72 u73 u74 u75 u76 u77 u78 u79 u80 u81 u82 u83 u84 u85 u86 k hk R rl sy HF HS hI ok hrow hcnt hsy A2 c2 x3_1 x3_2 A3 c3 hs x3_3 x3_4 hlt hltI bd od h Ab cb x3_5 rec n hc4 hb k20 hrg x3_6 HSS k29 h1 hn8 hwn hmn hmnI
            exact K_scrun_spec_a_b_h.out
        · have h1I : (kind == 1) = false := by simp [h1]
          rename_i x3_1 x3_2 x3_3 x3_4 x3_5 x3_6
          revert W w L hold l cap hl1 hl2 hl3 hinv hsmall hlen D0 hR0 hmay HD0 b2 x1_1 x1_2 b1 bm w1 x1_3 cS0 dc x1_4 w5 br w3 x1_5 x1_6 wr u5 u6 u14 u15 u16 u17 u18 u19 u20 u21 u22 u23 u24 u25 u26 u27 u28 u29 u30 u31 u32 u33 u34 u35 u36 u37 u38 u39 u40 u41 u42 u43 u44 u45 u46 u47 u48 u49 u50 u51 u52 u53 u54 u55 u56 u57 u58 u59 u60 u61 u62 u63 u64 u65 u66 u67 u68 u69 u70 u71 u72 u73 u74 u75 u76 u77 u78 u79 u80 u81 u82 u83 u84 u85 u86 k hk R rl sy HF HS hI ok hrow hcnt hsy A2 c2 x3_1 x3_2 A3 c3 hs x3_3 x3_4 hlt hltI bd od h Ab cb x3_5 kind rec n hc4 hrg hb x3_6 HSS k20 k29 h1 h2 h1I
          exact K_scrun_spec_a_b_i.out
    · have hltI : ¬ (k : Int) < (l.length : Int) := by omega
      rename_i x3_1 x3_2 x3_3 x3_4
      revert W w L hold l A cap h hl1 hl2 hl3 hinv hsmall hlen D0 hR0 hmay HD0 b2 x1_1 x1_2 b1 bm w1 x1_3 cS0 dc x1_4 w5 br w3 x1_5 x1_6 wr u5 u6 u14 u15 u16 u17 u18 u19 u20 u21 u22 u23 u24 u25 u26 u27 u28 u29 u30 u31 u32 u33 u34 u35 u36 u37 u38 u39 u40 u41 u42 u43 u44 u45 u46 u47 u48 u49 u50 u51 u52 u53 u54 u55 u56 u57 u58 u59 u60 u61 u62 u63 u64 u65 u66 u67 u68 u69 u70 u71 u72 u73 u74 u75 u76 u77 u78 u79 u80 u81 u82 u83 u84 u85 u86 k hk R rl sy HF HS hI ok hrow hcnt hsy A2 c2 x3_1 x3_2 A3 c3 hs x3_3 x3_4 hlt hltI
      exact K_scrun_spec_a_b_j.out
set_option maxRecDepth 100000 in
set_option maxHeartbeats 16000000 in
noncomputable def scrun_spec_a_b_c_cut : ScRunCut1 (scrun_spec_a_b_cut.p1) := by
  apply ScRunCut1.mk
  case go =>
    intro K_scrun_spec_a_b_c_d W w L hold l cap hl1 hl2 hl3 hinv hsmall hlen D0 hR0 hmay HD0 b2 x1_1 x1_2 b1 bm w1 x1_3 cS0 dc x1_4 w5 br w3 x1_5 x1_6 wr u5 u6 u14 u15 u16 u17 u18 u19 u20 u21 u22 u23 u24 u25 u26 u27 u28 u29 u30 u31 u32 u33 u34 u35 u36 u37 u38 u39 u40 u41 u42 u43 u44 u45 u46 u47 u48 u49 u50 u51 u52 u53 u54 u55 u56 u57 u58 u59 u60 u61 u62 u63 u64 u65 u66 u67 u68 u69 u70 u71 u72 u73 u74 u75 u76 u77 u78 u79 u80 u81 u82 u83 u84 u85 u86 k hk R rl sy HF HS hI ok hrow hcnt hsy A2 c2 x3_1 x3_2 A3 c3 hs x3_3 x3_4 hlt hltI bd od h Ab cb x3_5 rec n hc4 hb k20 hrg x3_6 HSS k29 R' hR' hcd
    obtain ⟨nx, hnx⟩ : ∃ x, R.next + (cuts rec).length = x := ⟨_, rfl⟩
    have HT : Box (R.told rec = nx) := ⟨by unfold Rg.told; rw [hcd, if_pos rfl, hnx]⟩
    have hnew : Box (mdRun (l.take (k + 1)) = ⟨R', rl ++ [(rec, nx)], sy⟩) := ⟨by rw [HSS.out]; unfold mdStep; simp [hcd, hR', hnx]⟩
    have HC := Box.mk hcd
    have HR' := Box.mk hR'
    clear hcd hR' hnx
    go_wp2_with (first
      | (guard_target = wpList _ _ _ (⟨some 20, .load _ _, _, _, _, _⟩ :: _) _ _; refine wpl (o := ⟨some 20, .load _ _, _, _, _, _⟩) rfl fun K hK => op_load rfl (ad := ⟨bm, 1, none⟩) rfl (by kernel_rfl) k20 (hK _ _ ?_); clear hK K)
      | (guard_target = wpList _ _ _ (⟨some 29, .load _ _, _, _, _, _⟩ :: _) _ _; refine wpl (o := ⟨some 29, .load _ _, _, _, _, _⟩) rfl fun K hK => op_load rfl (ad := ⟨bd, od + k * 3, none⟩) rfl (by kernel_rfl) k29 (hK _ _ ?_); clear hK K))
    have cS : ∀ w M, Sat W w M → row bm (mdCells b1 br (.slice A2 rl.length c2) (.slice A3 rl.length c3) sy) 56 ∈ M → old W ∈ M → rnS bm (mdCells b1 br (.slice A2 rl.length c2) (.slice A3 rl.length c3) sy) bd (od + k * 3) (rdCells ⟨1, rec, n⟩ (.slice Ab rec.length cb)) w := fun w M h hm ho => ⟨range_whole h hm, rold_range h ho hrg (by simp [rdCells])⟩
    have d41 : ∀ w, rnS bm (mdCells b1 br (.slice A2 rl.length c2) (.slice A3 rl.length c3) sy) bd (od + k * 3) (rdCells ⟨1, rec, n⟩ (.slice Ab rec.length cb)) w → w.cell? ⟨bm, 1, none⟩ = some (.pointer (some ⟨br, 0, none⟩)) := fun w h => h.1 1 _ rfl
    have d46 : ∀ w, rnS bm (mdCells b1 br (.slice A2 rl.length c2) (.slice A3 rl.length c3) sy) bd (od + k * 3) (rdCells ⟨1, rec, n⟩ (.slice Ab rec.length cb)) w → w.cell? ⟨bd, od + k * 3 + 1, none⟩ = some (.slice Ab rec.length cb) := fun w h => h.2 1 _ rfl
    have hS0 := cS _ _ hs.drew (by (try dsimp only [List.set]); repeat (first | with_reducible exact List.mem_cons_self | with_reducible apply List.mem_cons_of_mem)) (by (try dsimp only [List.set]); repeat (first | exact hold | apply List.mem_cons_of_mem))
    refine wp_region_tree (rnS bm (mdCells b1 br (.slice A2 rl.length c2) (.slice A3 rl.length c3) sy) bd (od + k * 3) (rdCells ⟨1, rec, n⟩ (.slice Ab rec.length cb))) (.take 0 (.take 1 (.take 2 (.take 3 (.take 4 (.take 5 (.take 6 (.all [(7, .take 8 (.take 9 (.take 10 (.take 11 (.take 12 (DTree.done))))))])))))))) (by kernel_rfl) (by kernel_rfl) (by kernel_rfl) (fun _ _ d _ _ h => by cases d <;> exact h) hS0 ?_
    have hs' := hs.drew
    clear hs
    have hs := hs'
    clear hs'
    have hq := fun p : Prop => class_const hS0 p
    clear hS0
    repeat (first
      | (with_reducible refine tree_load (o := ⟨some 41, .load _ _, _, _, _, _⟩) rfl rfl rfl rfl rfl d41 ?_)
      | (with_reducible refine tree_load (o := ⟨some 46, .load _ _, _, _, _, _⟩) rfl rfl rfl rfl rfl d46 ?_)
      | (refine tree_take rfl (fun K hK => ?_); go_simp; (first | with_reducible refine hK _ ?_ | (rw [if_neg (by decide)]; with_reducible refine hK _ ?_)); clear hK K))
    refine tree_one_yes (o := _) rfl rfl (fun K hK => ?_) (cS _ _ hs (by (try dsimp only [List.set]); repeat (first | with_reducible exact List.mem_cons_self | with_reducible apply List.mem_cons_of_mem)) (by (try dsimp only [List.set]); repeat (first | exact hold | apply List.mem_cons_of_mem)))
    try go_simp
    go_at_call 30
    refine (append_spec W _ _ br b1 R ok ((hs.pick (A := rg br b1 R) (by repeat (first | with_reducible exact Pick.here | with_reducible apply Pick.there))).pick (A := disk b1 R.D) (by repeat (first | with_reducible exact Pick.here | with_reducible apply Pick.there))) _ rec (has_w (by (try dsimp only [List.set]); repeat (first | exact hold | apply List.mem_cons_of_mem)) hb) (by omega) (by omega)).mono ?_
    clear hs
    rintro e w5 ⟨rfl, hs⟩
    rw [HT.out, HC.out]
    rw [HR'.out] at hs
    try go_simp
    refine hK _ _ (cS _ _ hs (by (try dsimp only [List.set]); repeat (first | with_reducible exact List.mem_cons_self | with_reducible apply List.mem_cons_of_mem)) (by (try dsimp only [List.set]); repeat (first | exact hold | apply List.mem_cons_of_mem))) ?_
    clear hK K
    repeat (first
      | (with_reducible refine tree_load (o := ⟨some 41, .load _ _, _, _, _, _⟩) rfl rfl rfl rfl rfl d41 ?_)
      | (with_reducible refine tree_load (o := ⟨some 46, .load _ _, _, _, _, _⟩) rfl rfl rfl rfl rfl d46 ?_)
      | (refine tree_take rfl (fun K hK => ?_); go_simp; (first | with_reducible refine hK _ ?_ | (rw [if_neg (by decide)]; with_reducible refine hK _ ?_)); clear hK K))
    refine tree_done ?_
    clear hq
    go_wp2_with fail
    rename_i x4_1 x4_2 x4_3 x4_4 x4_5 x4_6
    revert W w L hold l cap hl1 hl2 hl3 hinv hsmall hlen D0 hR0 hmay HD0 b2 x1_1 x1_2 b1 bm w1 x1_3 cS0 dc x1_4 x4_1 br w3 x1_5 x1_6 wr u5 u6 u14 u15 u16 u17 u18 u19 u20 u21 u22 u23 u24 u25 u26 u27 u28 u29 u30 u31 u32 u33 u34 u35 u36 u37 u38 u39 u40 u41 u42 u43 u44 u45 u46 u47 u48 u49 u50 u51 u52 u53 u54 u55 u56 u57 u58 u59 u60 u61 u62 u63 u64 u65 u66 u67 u68 u69 u70 u71 u72 u73 u74 u75 u76 u77 u78 u79 u80 u81 u82 u83 u84 u85 u86 k hk R rl sy HF HS hI ok hrow hcnt hsy A2 c2 x3_1 x3_2 A3 c3 x3_3 x3_4 hlt hltI bd od h Ab cb x3_5 rec n hc4 hb k20 hrg x3_6 HSS k29 R' nx HT hnew HC HR' x4_2 x4_3 x4_4 cS d41 d46 w5 hs x4_5 x4_6
    exact K_scrun_spec_a_b_c_d.out
set_option maxRecDepth 100000 in
set_option maxHeartbeats 16000000 in
noncomputable def scrun_spec_a_b_c_d_cut : ScRunCut8 (scrun_spec_a_b_c_cut.p1) := by
  apply ScRunCut8.mk
  case go =>
    intro K_scrun_spec_a_b_c_d_e K_scrun_spec_a_b_c_d_e_2 K_scrun_spec_a_b_c_d_e_3 K_scrun_spec_a_b_c_d_e_4 K_scrun_spec_a_b_c_d_e_5 K_scrun_spec_a_b_c_d_e_6 K_scrun_spec_a_b_c_d_e_7 K_scrun_spec_a_b_c_d_e_8 W w L hold l cap hl1 hl2 hl3 hinv hsmall hlen D0 hR0 hmay HD0 b2 x1_1 x1_2 b1 bm w1 x1_3 cS0 dc x1_4 x4_1 br w3 x1_5 x1_6 wr u5 u6 u14 u15 u16 u17 u18 u19 u20 u21 u22 u23 u24 u25 u26 u27 u28 u29 u30 u31 u32 u33 u34 u35 u36 u37 u38 u39 u40 u41 u42 u43 u44 u45 u46 u47 u48 u49 u50 u51 u52 u53 u54 u55 u56 u57 u58 u59 u60 u61 u62 u63 u64 u65 u66 u67 u68 u69 u70 u71 u72 u73 u74 u75 u76 u77 u78 u79 u80 u81 u82 u83 u84 u85 u86 k hk R rl sy HF HS hI ok hrow hcnt hsy A2 c2 x3_1 x3_2 A3 c3 x3_3 x3_4 hlt hltI bd od h Ab cb x3_5 rec n hc4 hb k20 hrg x3_6 HSS k29 R' nx HT hnew HC HR' x4_2 x4_3 x4_4 cS d41 d46 w5 hs x4_5 x4_6
    clear cS d41 d46
    have cS : ∀ w M, Sat W w M → old W ∈ M → r12S bd (od + k * 3) (rdCells ⟨1, rec, n⟩ (.slice Ab rec.length cb)) (.slice Ab rec.length cb) rec w := fun w M h ho => ⟨rold_range h ho hrg (by simp [rdCells]), h.bytes (has_w ho hb)⟩
    have d60 : ∀ w, r12S bd (od + k * 3) (rdCells ⟨1, rec, n⟩ (.slice Ab rec.length cb)) (.slice Ab rec.length cb) rec w → w.cell? ⟨bd, od + k * 3 + 1, none⟩ = some (.slice Ab rec.length cb) := fun w h => h.1 1 _ rfl
    have d61 : ∀ w, r12S bd (od + k * 3) (rdCells ⟨1, rec, n⟩ (.slice Ab rec.length cb)) (.slice Ab rec.length cb) rec w → bytesAt (.slice Ab rec.length cb) rec (hp w) := fun w h => h.2
    have hS0 := cS _ _ hs.drew (by (try dsimp only [List.set]); repeat (first | exact hold | apply List.mem_cons_of_mem))
    refine wp_region_tree (r12S bd (od + k * 3) (rdCells ⟨1, rec, n⟩ (.slice Ab rec.length cb)) (.slice Ab rec.length cb) rec) (.take 1 (.take 4 (.take 5 (.take 6 (.take 7 (.take 8 (.take 9 (.all [(0, .all [(2, .all [(3, .all [(10, .all [(11, .take 12 (.all [(13, DTree.done)]))])]), (10, .all [(3, .all [(11, .take 12 (.all [(13, DTree.done)]))])])]), (10, .all [(2, .all [(3, .all [(11, .take 12 (.all [(13, DTree.done)]))])])])]), (2, .all [(0, .all [(3, .all [(10, .all [(11, .take 12 (.all [(13, DTree.done)]))])]), (10, .all [(3, .all [(11, .take 12 (.all [(13, DTree.done)]))])])]), (10, .all [(0, .all [(3, .all [(11, .take 12 (.all [(13, DTree.done)]))])])])]), (10, .all [(0, .all [(2, .all [(3, .all [(11, .take 12 (.all [(13, DTree.done)]))])])]), (2, .all [(0, .all [(3, .all [(11, .take 12 (.all [(13, DTree.done)]))])])])])])))))))) (by kernel_rfl) (by kernel_rfl) (by kernel_rfl) (fun _ _ d _ _ h => by cases d <;> exact h) hS0 ?_
    have hs' := hs.drew
    clear hs
    have hs := hs'
    clear hs'
    have hq := fun p : Prop => class_const hS0 p
    clear hS0
    repeat (first
      | (with_reducible refine tree_load (o := ⟨some 60, .load _ _, _, _, _, _⟩) rfl rfl rfl rfl rfl d60 ?_)
      | ((with_reducible refine tree_str (o := ⟨some 61, .convert _ _ _, _, _, _, _⟩) (rec) rfl ?_ rfl Try.underlying36 Try.underlying5 Try.underlying9 ?_ d61 ?_); (rfl); (rfl))
      | (refine tree_take rfl (fun K hK => ?_); go_simp; (first | with_reducible refine hK _ ?_ | (rw [if_neg (by decide)]; with_reducible refine hK _ ?_)); clear hK K))
    refine tree_all (trees_cons_yes (o := _) rfl rfl (fun K hK => ?_) (cS _ _ hs (by (try dsimp only [List.set]); repeat (first | exact hold | apply List.mem_cons_of_mem))) (trees_cons_yes (o := _) rfl rfl (fun K hK => ?_) (cS _ _ hs (by (try dsimp only [List.set]); repeat (first | exact hold | apply List.mem_cons_of_mem))) (trees_cons_yes (o := _) rfl rfl (fun K hK => ?_) (cS _ _ hs (by (try dsimp only [List.set]); repeat (first | exact hold | apply List.mem_cons_of_mem))) trees_nil)))
    · refine op_lit hs rfl Try.underlying29 info_str [] (by omega) (by simp [Instr.fill]) fun b52 w2 h => hK _ _ (cS _ _ h (by (try dsimp only [List.set]); repeat (first | exact hold | apply List.mem_cons_of_mem))) ?_
      clear hs hK K
      have hs := h
      clear h
      try dsimp only [List.set] at hs
      try go_simp
      refine tree_all (trees_cons_yes (o := _) rfl rfl (fun K hK => ?_) (cS _ _ hs (by (try dsimp only [List.set]); repeat (first | exact hold | apply List.mem_cons_of_mem))) (trees_cons_yes (o := _) rfl rfl (fun K hK => ?_) (cS _ _ hs (by (try dsimp only [List.set]); repeat (first | exact hold | apply List.mem_cons_of_mem))) trees_nil))
      · refine op_load rfl (ad := ⟨bm, 2, none⟩) rfl (by kernel_rfl) (hs.cell (l := (mdCells b1 br (.slice A2 rl.length c2) (.slice A3 rl.length c3) sy)) (t := 56) (by (try dsimp only [List.set]); repeat (first | with_reducible exact List.mem_cons_self | with_reducible apply List.mem_cons_of_mem)) rfl) (hK _ _ (cS _ _ hs (by (try dsimp only [List.set]); repeat (first | exact hold | apply List.mem_cons_of_mem))) ?_)
        clear hK K
        try go_simp
        refine tree_all (trees_cons_yes (o := _) rfl rfl (fun K hK => ?_) (cS _ _ hs (by (try dsimp only [List.set]); repeat (first | exact hold | apply List.mem_cons_of_mem))) (trees_cons_yes (o := _) rfl rfl (fun K hK => ?_) (cS _ _ hs (by (try dsimp only [List.set]); repeat (first | exact hold | apply List.mem_cons_of_mem))) trees_nil))
        · refine op_append_new hs rfl Try.underlying29 Try.underlying29 info_str rfl (by omega) rfl (slice_nil _ 1 (Has.mem m0 fun _ _ => trivial)) rfl (Has.mem (A := sl1 (.slice A2 rl.length c2) rl.length (rcsS rl)) (by (try dsimp only [List.set]); repeat (first | with_reducible exact List.mem_cons_self | with_reducible apply List.mem_cons_of_mem)) fun F h => h) (.inr rfl) (by omega) (by omega) fun v55 w2 h => hK _ _ (cS _ _ h (by (try dsimp only [List.set]); repeat (first | exact hold | apply List.mem_cons_of_mem))) ?_
          clear hs hK K
          have hs := h
          clear h
          try dsimp only [List.set] at hs
          rw [Nat.zero_add, List.nil_append] at hs
          obtain ⟨A55, c55, rfl, _, _⟩ := own_slice hs (i := 0) rfl
          try go_simp
          refine tree_one_yes (o := _) rfl rfl (fun K hK => ?_) (cS _ _ hs (by (try dsimp only [List.set]); repeat (first | exact hold | apply List.mem_cons_of_mem)))
          refine op_lit1 hs rfl Try.underlying29 info_str rfl (strs [rec]) (by omega) rfl (strs_one _) (by first | rfl | (simp [strs, str, Act.eval, Act.put]; done) | (simp [strs, str, Act.eval, Act.put]; rfl)) fun b62 w5 h => hK _ _ (cS _ _ h (by (try dsimp only [List.set]); repeat (first | exact hold | apply List.mem_cons_of_mem))) ?_
          clear hs hK K
          have hs := h
          clear h
          try dsimp only [List.set] at hs
          try go_simp
          refine tree_one_yes (o := _) rfl rfl (fun K hK => ?_) (cS _ _ hs (by (try dsimp only [List.set]); repeat (first | exact hold | apply List.mem_cons_of_mem)))
          refine op_append (hs.pick (A := own (.slice A55 rl.length c55) 9 rl.length 1 (rcsS rl)) (by repeat (first | with_reducible exact Pick.here | with_reducible apply Pick.there))) rfl Try.underlying29 Try.underlying29 info_str rfl (by omega) (k := 0) rfl rfl rfl (Has.of (A := row b62 (strs [rec]) 9) (by (try dsimp only [List.set]); repeat (first | with_reducible exact List.mem_cons_self | with_reducible apply List.mem_cons_of_mem)) fun F hF => own_sliceAt F (own_exact (n := 1) (sz := 1) rfl (by omega) F hF)) (strs_one _) (by omega) (by omega) fun v63 w6 h => hK _ _ (cS _ _ h (by (try dsimp only [List.set]); repeat (first | exact hold | apply List.mem_cons_of_mem))) ?_
          clear hs hK K
          have hs := h
          clear h
          try dsimp only [List.set] at hs
          obtain ⟨A63, c63, rfl, _, _⟩ := own_slice hs (i := 0) rfl
          try go_simp
          repeat (first
            | (with_reducible refine tree_load (o := ⟨some 60, .load _ _, _, _, _, _⟩) rfl rfl rfl rfl rfl d60 ?_)
            | ((with_reducible refine tree_str (o := ⟨some 61, .convert _ _ _, _, _, _, _⟩) (rec) rfl ?_ rfl Try.underlying36 Try.underlying5 Try.underlying9 ?_ d61 ?_); (rfl); (rfl))
            | (refine tree_take rfl (fun K hK => ?_); go_simp; (first | with_reducible refine hK _ ?_ | (rw [if_neg (by decide)]; with_reducible refine hK _ ?_)); clear hK K))
          refine tree_one_yes (o := _) rfl rfl (fun K hK => ?_) (cS _ _ hs (by (try dsimp only [List.set]); repeat (first | exact hold | apply List.mem_cons_of_mem)))
          refine op_store (hs.pick (A := row bm (mdCells b1 br (.slice A2 rl.length c2) (.slice A3 rl.length c3) sy) 56) (by repeat (first | with_reducible exact Pick.here | with_reducible apply Pick.there))) rfl (b := bm) (i := 2) (v := .slice A63 (rl.length + 1) c63) rfl rfl rfl (by kernel_rfl) (k := 0) rfl (by simp [mdCells]) fun w7 h => hK _ _ (cS _ _ h (by (try dsimp only [List.set]); repeat (first | exact hold | apply List.mem_cons_of_mem))) ?_
          clear hs hK K
          have hs := h
          clear h
          try dsimp only [List.set] at hs
          change Sat W _ (row bm (mdCells b1 br (.slice A63 (rl.length + 1) c63) (.slice A3 rl.length c3) sy) 56 :: _) at hs
          try go_simp
          refine tree_done ?_
          clear hq
          rename_i x5_1 x5_2 x5_3 x5_4 x5_5 x5_6
          revert W w L hold l cap hl1 hl2 hl3 hinv hsmall hlen D0 hR0 hmay HD0 b2 x1_1 x1_2 b1 bm w1 x1_3 cS0 dc x1_4 x4_1 br w3 x1_5 x1_6 wr u5 u6 u14 u15 u16 u17 u18 u19 u20 u21 u22 u23 u24 u25 u26 u27 u28 u29 u30 u31 u32 u33 u34 u35 u36 u37 u38 u39 u40 u41 u42 u43 u44 u45 u46 u47 u48 u49 u50 u51 u52 u53 u54 u55 u56 u57 u58 u59 u60 u61 u62 u63 u64 u65 u66 u67 u68 u69 u70 u71 u72 u73 u74 u75 u76 u77 u78 u79 u80 u81 u82 u83 u84 u85 u86 k hk R rl sy HF HS hI ok hrow hcnt hsy A2 c2 x3_1 x3_2 A3 c3 x3_3 x3_4 hlt hltI bd od h Ab cb x3_5 rec n hc4 hb k20 hrg x3_6 HSS k29 R' nx HT hnew HC HR' x4_2 x4_3 x4_4 x5_1 x4_5 x4_6 cS d60 d61 b52 x5_2 w2 A55 c55 x5_3 x5_4 b62 w5 w6 A63 c63 x5_5 x5_6 w7 hs
          exact K_scrun_spec_a_b_c_d_e.out
        · refine op_lit1 hs rfl Try.underlying29 info_str rfl (strs [rec]) (by omega) rfl (strs_one _) (by first | rfl | (simp [strs, str, Act.eval, Act.put]; done) | (simp [strs, str, Act.eval, Act.put]; rfl)) fun b62 w5 h => hK _ _ (cS _ _ h (by (try dsimp only [List.set]); repeat (first | exact hold | apply List.mem_cons_of_mem))) ?_
          clear hs hK K
          have hs := h
          clear h
          try dsimp only [List.set] at hs
          try go_simp
          refine tree_one_yes (o := _) rfl rfl (fun K hK => ?_) (cS _ _ hs (by (try dsimp only [List.set]); repeat (first | exact hold | apply List.mem_cons_of_mem)))
          refine op_append_new hs rfl Try.underlying29 Try.underlying29 info_str rfl (by omega) rfl (slice_nil _ 1 (Has.mem m0 fun _ _ => trivial)) rfl (Has.mem (A := sl1 (.slice A2 rl.length c2) rl.length (rcsS rl)) (by (try dsimp only [List.set]); repeat (first | with_reducible exact List.mem_cons_self | with_reducible apply List.mem_cons_of_mem)) fun F h => h) (.inr rfl) (by omega) (by omega) fun v55 w2 h => hK _ _ (cS _ _ h (by (try dsimp only [List.set]); repeat (first | exact hold | apply List.mem_cons_of_mem))) ?_
          clear hs hK K
          have hs := h
          clear h
          try dsimp only [List.set] at hs
          rw [Nat.zero_add, List.nil_append] at hs
          obtain ⟨A55, c55, rfl, _, _⟩ := own_slice hs (i := 0) rfl
          try go_simp
          refine tree_one_yes (o := _) rfl rfl (fun K hK => ?_) (cS _ _ hs (by (try dsimp only [List.set]); repeat (first | exact hold | apply List.mem_cons_of_mem)))
          refine op_append (hs.pick (A := own (.slice A55 rl.length c55) 9 rl.length 1 (rcsS rl)) (by repeat (first | with_reducible exact Pick.here | with_reducible apply Pick.there))) rfl Try.underlying29 Try.underlying29 info_str rfl (by omega) (k := 0) rfl rfl rfl (Has.of (A := row b62 (strs [rec]) 9) (by (try dsimp only [List.set]); repeat (first | with_reducible exact List.mem_cons_self | with_reducible apply List.mem_cons_of_mem)) fun F hF => own_sliceAt F (own_exact (n := 1) (sz := 1) rfl (by omega) F hF)) (strs_one _) (by omega) (by omega) fun v63 w6 h => hK _ _ (cS _ _ h (by (try dsimp only [List.set]); repeat (first | exact hold | apply List.mem_cons_of_mem))) ?_
          clear hs hK K
          have hs := h
          clear h
          try dsimp only [List.set] at hs
          obtain ⟨A63, c63, rfl, _, _⟩ := own_slice hs (i := 0) rfl
          try go_simp
          repeat (first
            | (with_reducible refine tree_load (o := ⟨some 60, .load _ _, _, _, _, _⟩) rfl rfl rfl rfl rfl d60 ?_)
            | ((with_reducible refine tree_str (o := ⟨some 61, .convert _ _ _, _, _, _, _⟩) (rec) rfl ?_ rfl Try.underlying36 Try.underlying5 Try.underlying9 ?_ d61 ?_); (rfl); (rfl))
            | (refine tree_take rfl (fun K hK => ?_); go_simp; (first | with_reducible refine hK _ ?_ | (rw [if_neg (by decide)]; with_reducible refine hK _ ?_)); clear hK K))
          refine tree_one_yes (o := _) rfl rfl (fun K hK => ?_) (cS _ _ hs (by (try dsimp only [List.set]); repeat (first | exact hold | apply List.mem_cons_of_mem)))
          refine op_store (hs.pick (A := row bm (mdCells b1 br (.slice A2 rl.length c2) (.slice A3 rl.length c3) sy) 56) (by repeat (first | with_reducible exact Pick.here | with_reducible apply Pick.there))) rfl (b := bm) (i := 2) (v := .slice A63 (rl.length + 1) c63) rfl rfl rfl (by kernel_rfl) (k := 0) rfl (by simp [mdCells]) fun w7 h => hK _ _ (cS _ _ h (by (try dsimp only [List.set]); repeat (first | exact hold | apply List.mem_cons_of_mem))) ?_
          clear hs hK K
          have hs := h
          clear h
          try dsimp only [List.set] at hs
          change Sat W _ (row bm (mdCells b1 br (.slice A63 (rl.length + 1) c63) (.slice A3 rl.length c3) sy) 56 :: _) at hs
          try go_simp
          refine tree_done ?_
          clear hq
          rename_i x5_1 x5_2 x5_3 x5_4 x5_5 x5_6
          revert W w L hold l cap hl1 hl2 hl3 hinv hsmall hlen D0 hR0 hmay HD0 b2 x1_1 x1_2 b1 bm w1 x1_3 cS0 dc x1_4 x4_1 br w3 x1_5 x1_6 wr u5 u6 u14 u15 u16 u17 u18 u19 u20 u21 u22 u23 u24 u25 u26 u27 u28 u29 u30 u31 u32 u33 u34 u35 u36 u37 u38 u39 u40 u41 u42 u43 u44 u45 u46 u47 u48 u49 u50 u51 u52 u53 u54 u55 u56 u57 u58 u59 u60 u61 u62 u63 u64 u65 u66 u67 u68 u69 u70 u71 u72 u73 u74 u75 u76 u77 u78 u79 u80 u81 u82 u83 u84 u85 u86 k hk R rl sy HF HS hI ok hrow hcnt hsy A2 c2 x3_1 x3_2 A3 c3 x3_3 x3_4 hlt hltI bd od h Ab cb x3_5 rec n hc4 hb k20 hrg x3_6 HSS k29 R' nx HT hnew HC HR' x4_2 x4_3 x4_4 x5_1 x4_5 x4_6 cS d60 d61 b52 x5_2 b62 w5 w2 A55 c55 x5_3 x5_4 w6 A63 c63 x5_5 x5_6 w7 hs
          exact K_scrun_spec_a_b_c_d_e_2.out
      · refine op_lit1 hs rfl Try.underlying29 info_str rfl (strs [rec]) (by omega) rfl (strs_one _) (by first | rfl | (simp [strs, str, Act.eval, Act.put]; done) | (simp [strs, str, Act.eval, Act.put]; rfl)) fun b62 w5 h => hK _ _ (cS _ _ h (by (try dsimp only [List.set]); repeat (first | exact hold | apply List.mem_cons_of_mem))) ?_
        clear hs hK K
        have hs := h
        clear h
        try dsimp only [List.set] at hs
        try go_simp
        refine tree_one_yes (o := _) rfl rfl (fun K hK => ?_) (cS _ _ hs (by (try dsimp only [List.set]); repeat (first | exact hold | apply List.mem_cons_of_mem)))
        refine op_load rfl (ad := ⟨bm, 2, none⟩) rfl (by kernel_rfl) (hs.cell (l := (mdCells b1 br (.slice A2 rl.length c2) (.slice A3 rl.length c3) sy)) (t := 56) (by (try dsimp only [List.set]); repeat (first | with_reducible exact List.mem_cons_self | with_reducible apply List.mem_cons_of_mem)) rfl) (hK _ _ (cS _ _ hs (by (try dsimp only [List.set]); repeat (first | exact hold | apply List.mem_cons_of_mem))) ?_)
        clear hK K
        try go_simp
        refine tree_one_yes (o := _) rfl rfl (fun K hK => ?_) (cS _ _ hs (by (try dsimp only [List.set]); repeat (first | exact hold | apply List.mem_cons_of_mem)))
        refine op_append_new hs rfl Try.underlying29 Try.underlying29 info_str rfl (by omega) rfl (slice_nil _ 1 (Has.mem m0 fun _ _ => trivial)) rfl (Has.mem (A := sl1 (.slice A2 rl.length c2) rl.length (rcsS rl)) (by (try dsimp only [List.set]); repeat (first | with_reducible exact List.mem_cons_self | with_reducible apply List.mem_cons_of_mem)) fun F h => h) (.inr rfl) (by omega) (by omega) fun v55 w2 h => hK _ _ (cS _ _ h (by (try dsimp only [List.set]); repeat (first | exact hold | apply List.mem_cons_of_mem))) ?_
        clear hs hK K
        have hs := h
        clear h
        try dsimp only [List.set] at hs
        rw [Nat.zero_add, List.nil_append] at hs
        obtain ⟨A55, c55, rfl, _, _⟩ := own_slice hs (i := 0) rfl
        try go_simp
        refine tree_one_yes (o := _) rfl rfl (fun K hK => ?_) (cS _ _ hs (by (try dsimp only [List.set]); repeat (first | exact hold | apply List.mem_cons_of_mem)))
        refine op_append (hs.pick (A := own (.slice A55 rl.length c55) 9 rl.length 1 (rcsS rl)) (by repeat (first | with_reducible exact Pick.here | with_reducible apply Pick.there))) rfl Try.underlying29 Try.underlying29 info_str rfl (by omega) (k := 0) rfl rfl rfl (Has.of (A := row b62 (strs [rec]) 9) (by (try dsimp only [List.set]); repeat (first | with_reducible exact List.mem_cons_self | with_reducible apply List.mem_cons_of_mem)) fun F hF => own_sliceAt F (own_exact (n := 1) (sz := 1) rfl (by omega) F hF)) (strs_one _) (by omega) (by omega) fun v63 w6 h => hK _ _ (cS _ _ h (by (try dsimp only [List.set]); repeat (first | exact hold | apply List.mem_cons_of_mem))) ?_
        clear hs hK K
        have hs := h
        clear h
        try dsimp only [List.set] at hs
        obtain ⟨A63, c63, rfl, _, _⟩ := own_slice hs (i := 0) rfl
        try go_simp
        repeat (first
          | (with_reducible refine tree_load (o := ⟨some 60, .load _ _, _, _, _, _⟩) rfl rfl rfl rfl rfl d60 ?_)
          | ((with_reducible refine tree_str (o := ⟨some 61, .convert _ _ _, _, _, _, _⟩) (rec) rfl ?_ rfl Try.underlying36 Try.underlying5 Try.underlying9 ?_ d61 ?_); (rfl); (rfl))
          | (refine tree_take rfl (fun K hK => ?_); go_simp; (first | with_reducible refine hK _ ?_ | (rw [if_neg (by decide)]; with_reducible refine hK _ ?_)); clear hK K))
        refine tree_one_yes (o := _) rfl rfl (fun K hK => ?_) (cS _ _ hs (by (try dsimp only [List.set]); repeat (first | exact hold | apply List.mem_cons_of_mem)))
        refine op_store (hs.pick (A := row bm (mdCells b1 br (.slice A2 rl.length c2) (.slice A3 rl.length c3) sy) 56) (by repeat (first | with_reducible exact Pick.here | with_reducible apply Pick.there))) rfl (b := bm) (i := 2) (v := .slice A63 (rl.length + 1) c63) rfl rfl rfl (by kernel_rfl) (k := 0) rfl (by simp [mdCells]) fun w7 h => hK _ _ (cS _ _ h (by (try dsimp only [List.set]); repeat (first | exact hold | apply List.mem_cons_of_mem))) ?_
        clear hs hK K
        have hs := h
        clear h
        try dsimp only [List.set] at hs
        change Sat W _ (row bm (mdCells b1 br (.slice A63 (rl.length + 1) c63) (.slice A3 rl.length c3) sy) 56 :: _) at hs
        try go_simp
        refine tree_done ?_
        clear hq
        rename_i x5_1 x5_2 x5_3 x5_4 x5_5 x5_6
        revert W w L hold l cap hl1 hl2 hl3 hinv hsmall hlen D0 hR0 hmay HD0 b2 x1_1 x1_2 b1 bm w1 x1_3 cS0 dc x1_4 x4_1 br w3 x1_5 x1_6 wr u5 u6 u14 u15 u16 u17 u18 u19 u20 u21 u22 u23 u24 u25 u26 u27 u28 u29 u30 u31 u32 u33 u34 u35 u36 u37 u38 u39 u40 u41 u42 u43 u44 u45 u46 u47 u48 u49 u50 u51 u52 u53 u54 u55 u56 u57 u58 u59 u60 u61 u62 u63 u64 u65 u66 u67 u68 u69 u70 u71 u72 u73 u74 u75 u76 u77 u78 u79 u80 u81 u82 u83 u84 u85 u86 k hk R rl sy HF HS hI ok hrow hcnt hsy A2 c2 x3_1 x3_2 A3 c3 x3_3 x3_4 hlt hltI bd od h Ab cb x3_5 rec n hc4 hb k20 hrg x3_6 HSS k29 R' nx HT hnew HC HR' x4_2 x4_3 x4_4 x5_1 x4_5 x4_6 cS d60 d61 b52 x5_2 b62 w5 w2 A55 c55 x5_3 x5_4 w6 A63 c63 x5_5 x5_6 w7 hs
        exact K_scrun_spec_a_b_c_d_e_3.out
    · refine op_load rfl (ad := ⟨bm, 2, none⟩) rfl (by kernel_rfl) (hs.cell (l := (mdCells b1 br (.slice A2 rl.length c2) (.slice A3 rl.length c3) sy)) (t := 56) (by (try dsimp only [List.set]); repeat (first | with_reducible exact List.mem_cons_self | with_reducible apply List.mem_cons_of_mem)) rfl) (hK _ _ (cS _ _ hs (by (try dsimp only [List.set]); repeat (first | exact hold | apply List.mem_cons_of_mem))) ?_)
      clear hK K
      try go_simp
      refine tree_all (trees_cons_yes (o := _) rfl rfl (fun K hK => ?_) (cS _ _ hs (by (try dsimp only [List.set]); repeat (first | exact hold | apply List.mem_cons_of_mem))) (trees_cons_yes (o := _) rfl rfl (fun K hK => ?_) (cS _ _ hs (by (try dsimp only [List.set]); repeat (first | exact hold | apply List.mem_cons_of_mem))) trees_nil))
      · refine op_lit hs rfl Try.underlying29 info_str [] (by omega) (by simp [Instr.fill]) fun b52 w2 h => hK _ _ (cS _ _ h (by (try dsimp only [List.set]); repeat (first | exact hold | apply List.mem_cons_of_mem))) ?_
        clear hs hK K
        have hs := h
        clear h
        try dsimp only [List.set] at hs
        try go_simp
        refine tree_all (trees_cons_yes (o := _) rfl rfl (fun K hK => ?_) (cS _ _ hs (by (try dsimp only [List.set]); repeat (first | exact hold | apply List.mem_cons_of_mem))) (trees_cons_yes (o := _) rfl rfl (fun K hK => ?_) (cS _ _ hs (by (try dsimp only [List.set]); repeat (first | exact hold | apply List.mem_cons_of_mem))) trees_nil))
        · refine op_append_new hs rfl Try.underlying29 Try.underlying29 info_str rfl (by omega) rfl (slice_nil _ 1 (Has.mem m0 fun _ _ => trivial)) rfl (Has.mem (A := sl1 (.slice A2 rl.length c2) rl.length (rcsS rl)) (by (try dsimp only [List.set]); repeat (first | with_reducible exact List.mem_cons_self | with_reducible apply List.mem_cons_of_mem)) fun F h => h) (.inr rfl) (by omega) (by omega) fun v55 w2 h => hK _ _ (cS _ _ h (by (try dsimp only [List.set]); repeat (first | exact hold | apply List.mem_cons_of_mem))) ?_
          clear hs hK K
          have hs := h
          clear h
          try dsimp only [List.set] at hs
          rw [Nat.zero_add, List.nil_append] at hs
          obtain ⟨A55, c55, rfl, _, _⟩ := own_slice hs (i := 0) rfl
          try go_simp
          refine tree_one_yes (o := _) rfl rfl (fun K hK => ?_) (cS _ _ hs (by (try dsimp only [List.set]); repeat (first | exact hold | apply List.mem_cons_of_mem)))
          refine op_lit1 hs rfl Try.underlying29 info_str rfl (strs [rec]) (by omega) rfl (strs_one _) (by first | rfl | (simp [strs, str, Act.eval, Act.put]; done) | (simp [strs, str, Act.eval, Act.put]; rfl)) fun b62 w5 h => hK _ _ (cS _ _ h (by (try dsimp only [List.set]); repeat (first | exact hold | apply List.mem_cons_of_mem))) ?_
          clear hs hK K
          have hs := h
          clear h
          try dsimp only [List.set] at hs
          try go_simp
          refine tree_one_yes (o := _) rfl rfl (fun K hK => ?_) (cS _ _ hs (by (try dsimp only [List.set]); repeat (first | exact hold | apply List.mem_cons_of_mem)))
          refine op_append (hs.pick (A := own (.slice A55 rl.length c55) 9 rl.length 1 (rcsS rl)) (by repeat (first | with_reducible exact Pick.here | with_reducible apply Pick.there))) rfl Try.underlying29 Try.underlying29 info_str rfl (by omega) (k := 0) rfl rfl rfl (Has.of (A := row b62 (strs [rec]) 9) (by (try dsimp only [List.set]); repeat (first | with_reducible exact List.mem_cons_self | with_reducible apply List.mem_cons_of_mem)) fun F hF => own_sliceAt F (own_exact (n := 1) (sz := 1) rfl (by omega) F hF)) (strs_one _) (by omega) (by omega) fun v63 w6 h => hK _ _ (cS _ _ h (by (try dsimp only [List.set]); repeat (first | exact hold | apply List.mem_cons_of_mem))) ?_
          clear hs hK K
          have hs := h
          clear h
          try dsimp only [List.set] at hs
          obtain ⟨A63, c63, rfl, _, _⟩ := own_slice hs (i := 0) rfl
          try go_simp
          repeat (first
            | (with_reducible refine tree_load (o := ⟨some 60, .load _ _, _, _, _, _⟩) rfl rfl rfl rfl rfl d60 ?_)
            | ((with_reducible refine tree_str (o := ⟨some 61, .convert _ _ _, _, _, _, _⟩) (rec) rfl ?_ rfl Try.underlying36 Try.underlying5 Try.underlying9 ?_ d61 ?_); (rfl); (rfl))
            | (refine tree_take rfl (fun K hK => ?_); go_simp; (first | with_reducible refine hK _ ?_ | (rw [if_neg (by decide)]; with_reducible refine hK _ ?_)); clear hK K))
          refine tree_one_yes (o := _) rfl rfl (fun K hK => ?_) (cS _ _ hs (by (try dsimp only [List.set]); repeat (first | exact hold | apply List.mem_cons_of_mem)))
          refine op_store (hs.pick (A := row bm (mdCells b1 br (.slice A2 rl.length c2) (.slice A3 rl.length c3) sy) 56) (by repeat (first | with_reducible exact Pick.here | with_reducible apply Pick.there))) rfl (b := bm) (i := 2) (v := .slice A63 (rl.length + 1) c63) rfl rfl rfl (by kernel_rfl) (k := 0) rfl (by simp [mdCells]) fun w7 h => hK _ _ (cS _ _ h (by (try dsimp only [List.set]); repeat (first | exact hold | apply List.mem_cons_of_mem))) ?_
          clear hs hK K
          have hs := h
          clear h
          try dsimp only [List.set] at hs
          change Sat W _ (row bm (mdCells b1 br (.slice A63 (rl.length + 1) c63) (.slice A3 rl.length c3) sy) 56 :: _) at hs
          try go_simp
          refine tree_done ?_
          clear hq
          rename_i x5_1 x5_2 x5_3 x5_4 x5_5 x5_6
          revert W w L hold l cap hl1 hl2 hl3 hinv hsmall hlen D0 hR0 hmay HD0 b2 x1_1 x1_2 b1 bm w1 x1_3 cS0 dc x1_4 x4_1 br w3 x1_5 x1_6 wr u5 u6 u14 u15 u16 u17 u18 u19 u20 u21 u22 u23 u24 u25 u26 u27 u28 u29 u30 u31 u32 u33 u34 u35 u36 u37 u38 u39 u40 u41 u42 u43 u44 u45 u46 u47 u48 u49 u50 u51 u52 u53 u54 u55 u56 u57 u58 u59 u60 u61 u62 u63 u64 u65 u66 u67 u68 u69 u70 u71 u72 u73 u74 u75 u76 u77 u78 u79 u80 u81 u82 u83 u84 u85 u86 k hk R rl sy HF HS hI ok hrow hcnt hsy A2 c2 x3_1 x3_2 A3 c3 x3_3 x3_4 hlt hltI bd od h Ab cb x3_5 rec n hc4 hb k20 hrg x3_6 HSS k29 R' nx HT hnew HC HR' x4_2 x4_3 x4_4 x5_1 x4_5 x4_6 cS d60 d61 b52 x5_2 w2 A55 c55 x5_3 x5_4 b62 w5 w6 A63 c63 x5_5 x5_6 w7 hs
          exact K_scrun_spec_a_b_c_d_e_4.out
        · refine op_lit1 hs rfl Try.underlying29 info_str rfl (strs [rec]) (by omega) rfl (strs_one _) (by first | rfl | (simp [strs, str, Act.eval, Act.put]; done) | (simp [strs, str, Act.eval, Act.put]; rfl)) fun b62 w5 h => hK _ _ (cS _ _ h (by (try dsimp only [List.set]); repeat (first | exact hold | apply List.mem_cons_of_mem))) ?_
          clear hs hK K
          have hs := h
          clear h
          try dsimp only [List.set] at hs
          try go_simp
          refine tree_one_yes (o := _) rfl rfl (fun K hK => ?_) (cS _ _ hs (by (try dsimp only [List.set]); repeat (first | exact hold | apply List.mem_cons_of_mem)))
          refine op_append_new hs rfl Try.underlying29 Try.underlying29 info_str rfl (by omega) rfl (slice_nil _ 1 (Has.mem m0 fun _ _ => trivial)) rfl (Has.mem (A := sl1 (.slice A2 rl.length c2) rl.length (rcsS rl)) (by (try dsimp only [List.set]); repeat (first | with_reducible exact List.mem_cons_self | with_reducible apply List.mem_cons_of_mem)) fun F h => h) (.inr rfl) (by omega) (by omega) fun v55 w2 h => hK _ _ (cS _ _ h (by (try dsimp only [List.set]); repeat (first | exact hold | apply List.mem_cons_of_mem))) ?_
          clear hs hK K
          have hs := h
          clear h
          try dsimp only [List.set] at hs
          rw [Nat.zero_add, List.nil_append] at hs
          obtain ⟨A55, c55, rfl, _, _⟩ := own_slice hs (i := 0) rfl
          try go_simp
          refine tree_one_yes (o := _) rfl rfl (fun K hK => ?_) (cS _ _ hs (by (try dsimp only [List.set]); repeat (first | exact hold | apply List.mem_cons_of_mem)))
          refine op_append (hs.pick (A := own (.slice A55 rl.length c55) 9 rl.length 1 (rcsS rl)) (by repeat (first | with_reducible exact Pick.here | with_reducible apply Pick.there))) rfl Try.underlying29 Try.underlying29 info_str rfl (by omega) (k := 0) rfl rfl rfl (Has.of (A := row b62 (strs [rec]) 9) (by (try dsimp only [List.set]); repeat (first | with_reducible exact List.mem_cons_self | with_reducible apply List.mem_cons_of_mem)) fun F hF => own_sliceAt F (own_exact (n := 1) (sz := 1) rfl (by omega) F hF)) (strs_one _) (by omega) (by omega) fun v63 w6 h => hK _ _ (cS _ _ h (by (try dsimp only [List.set]); repeat (first | exact hold | apply List.mem_cons_of_mem))) ?_
          clear hs hK K
          have hs := h
          clear h
          try dsimp only [List.set] at hs
          obtain ⟨A63, c63, rfl, _, _⟩ := own_slice hs (i := 0) rfl
          try go_simp
          repeat (first
            | (with_reducible refine tree_load (o := ⟨some 60, .load _ _, _, _, _, _⟩) rfl rfl rfl rfl rfl d60 ?_)
            | ((with_reducible refine tree_str (o := ⟨some 61, .convert _ _ _, _, _, _, _⟩) (rec) rfl ?_ rfl Try.underlying36 Try.underlying5 Try.underlying9 ?_ d61 ?_); (rfl); (rfl))
            | (refine tree_take rfl (fun K hK => ?_); go_simp; (first | with_reducible refine hK _ ?_ | (rw [if_neg (by decide)]; with_reducible refine hK _ ?_)); clear hK K))
          refine tree_one_yes (o := _) rfl rfl (fun K hK => ?_) (cS _ _ hs (by (try dsimp only [List.set]); repeat (first | exact hold | apply List.mem_cons_of_mem)))
          refine op_store (hs.pick (A := row bm (mdCells b1 br (.slice A2 rl.length c2) (.slice A3 rl.length c3) sy) 56) (by repeat (first | with_reducible exact Pick.here | with_reducible apply Pick.there))) rfl (b := bm) (i := 2) (v := .slice A63 (rl.length + 1) c63) rfl rfl rfl (by kernel_rfl) (k := 0) rfl (by simp [mdCells]) fun w7 h => hK _ _ (cS _ _ h (by (try dsimp only [List.set]); repeat (first | exact hold | apply List.mem_cons_of_mem))) ?_
          clear hs hK K
          have hs := h
          clear h
          try dsimp only [List.set] at hs
          change Sat W _ (row bm (mdCells b1 br (.slice A63 (rl.length + 1) c63) (.slice A3 rl.length c3) sy) 56 :: _) at hs
          try go_simp
          refine tree_done ?_
          clear hq
          rename_i x5_1 x5_2 x5_3 x5_4 x5_5 x5_6
          revert W w L hold l cap hl1 hl2 hl3 hinv hsmall hlen D0 hR0 hmay HD0 b2 x1_1 x1_2 b1 bm w1 x1_3 cS0 dc x1_4 x4_1 br w3 x1_5 x1_6 wr u5 u6 u14 u15 u16 u17 u18 u19 u20 u21 u22 u23 u24 u25 u26 u27 u28 u29 u30 u31 u32 u33 u34 u35 u36 u37 u38 u39 u40 u41 u42 u43 u44 u45 u46 u47 u48 u49 u50 u51 u52 u53 u54 u55 u56 u57 u58 u59 u60 u61 u62 u63 u64 u65 u66 u67 u68 u69 u70 u71 u72 u73 u74 u75 u76 u77 u78 u79 u80 u81 u82 u83 u84 u85 u86 k hk R rl sy HF HS hI ok hrow hcnt hsy A2 c2 x3_1 x3_2 A3 c3 x3_3 x3_4 hlt hltI bd od h Ab cb x3_5 rec n hc4 hb k20 hrg x3_6 HSS k29 R' nx HT hnew HC HR' x4_2 x4_3 x4_4 x5_1 x4_5 x4_6 cS d60 d61 b52 x5_2 b62 w5 w2 A55 c55 x5_3 x5_4 w6 A63 c63 x5_5 x5_6 w7 hs
          exact K_scrun_spec_a_b_c_d_e_5.out
      · refine op_lit1 hs rfl Try.underlying29 info_str rfl (strs [rec]) (by omega) rfl (strs_one _) (by first | rfl | (simp [strs, str, Act.eval, Act.put]; done) | (simp [strs, str, Act.eval, Act.put]; rfl)) fun b62 w5 h => hK _ _ (cS _ _ h (by (try dsimp only [List.set]); repeat (first | exact hold | apply List.mem_cons_of_mem))) ?_
        clear hs hK K
        have hs := h
        clear h
        try dsimp only [List.set] at hs
        try go_simp
        refine tree_one_yes (o := _) rfl rfl (fun K hK => ?_) (cS _ _ hs (by (try dsimp only [List.set]); repeat (first | exact hold | apply List.mem_cons_of_mem)))
        refine op_lit hs rfl Try.underlying29 info_str [] (by omega) (by simp [Instr.fill]) fun b52 w2 h => hK _ _ (cS _ _ h (by (try dsimp only [List.set]); repeat (first | exact hold | apply List.mem_cons_of_mem))) ?_
        clear hs hK K
        have hs := h
        clear h
        try dsimp only [List.set] at hs
        try go_simp
        refine tree_one_yes (o := _) rfl rfl (fun K hK => ?_) (cS _ _ hs (by (try dsimp only [List.set]); repeat (first | exact hold | apply List.mem_cons_of_mem)))
        refine op_append_new hs rfl Try.underlying29 Try.underlying29 info_str rfl (by omega) rfl (slice_nil _ 1 (Has.mem m0 fun _ _ => trivial)) rfl (Has.mem (A := sl1 (.slice A2 rl.length c2) rl.length (rcsS rl)) (by (try dsimp only [List.set]); repeat (first | with_reducible exact List.mem_cons_self | with_reducible apply List.mem_cons_of_mem)) fun F h => h) (.inr rfl) (by omega) (by omega) fun v55 w2 h => hK _ _ (cS _ _ h (by (try dsimp only [List.set]); repeat (first | exact hold | apply List.mem_cons_of_mem))) ?_
        clear hs hK K
        have hs := h
        clear h
        try dsimp only [List.set] at hs
        rw [Nat.zero_add, List.nil_append] at hs
        obtain ⟨A55, c55, rfl, _, _⟩ := own_slice hs (i := 0) rfl
        try go_simp
        refine tree_one_yes (o := _) rfl rfl (fun K hK => ?_) (cS _ _ hs (by (try dsimp only [List.set]); repeat (first | exact hold | apply List.mem_cons_of_mem)))
        refine op_append (hs.pick (A := own (.slice A55 rl.length c55) 9 rl.length 1 (rcsS rl)) (by repeat (first | with_reducible exact Pick.here | with_reducible apply Pick.there))) rfl Try.underlying29 Try.underlying29 info_str rfl (by omega) (k := 0) rfl rfl rfl (Has.of (A := row b62 (strs [rec]) 9) (by (try dsimp only [List.set]); repeat (first | with_reducible exact List.mem_cons_self | with_reducible apply List.mem_cons_of_mem)) fun F hF => own_sliceAt F (own_exact (n := 1) (sz := 1) rfl (by omega) F hF)) (strs_one _) (by omega) (by omega) fun v63 w6 h => hK _ _ (cS _ _ h (by (try dsimp only [List.set]); repeat (first | exact hold | apply List.mem_cons_of_mem))) ?_
        clear hs hK K
        have hs := h
        clear h
        try dsimp only [List.set] at hs
        obtain ⟨A63, c63, rfl, _, _⟩ := own_slice hs (i := 0) rfl
        try go_simp
        repeat (first
          | (with_reducible refine tree_load (o := ⟨some 60, .load _ _, _, _, _, _⟩) rfl rfl rfl rfl rfl d60 ?_)
          | ((with_reducible refine tree_str (o := ⟨some 61, .convert _ _ _, _, _, _, _⟩) (rec) rfl ?_ rfl Try.underlying36 Try.underlying5 Try.underlying9 ?_ d61 ?_); (rfl); (rfl))
          | (refine tree_take rfl (fun K hK => ?_); go_simp; (first | with_reducible refine hK _ ?_ | (rw [if_neg (by decide)]; with_reducible refine hK _ ?_)); clear hK K))
        refine tree_one_yes (o := _) rfl rfl (fun K hK => ?_) (cS _ _ hs (by (try dsimp only [List.set]); repeat (first | exact hold | apply List.mem_cons_of_mem)))
        refine op_store (hs.pick (A := row bm (mdCells b1 br (.slice A2 rl.length c2) (.slice A3 rl.length c3) sy) 56) (by repeat (first | with_reducible exact Pick.here | with_reducible apply Pick.there))) rfl (b := bm) (i := 2) (v := .slice A63 (rl.length + 1) c63) rfl rfl rfl (by kernel_rfl) (k := 0) rfl (by simp [mdCells]) fun w7 h => hK _ _ (cS _ _ h (by (try dsimp only [List.set]); repeat (first | exact hold | apply List.mem_cons_of_mem))) ?_
        clear hs hK K
        have hs := h
        clear h
        try dsimp only [List.set] at hs
        change Sat W _ (row bm (mdCells b1 br (.slice A63 (rl.length + 1) c63) (.slice A3 rl.length c3) sy) 56 :: _) at hs
        try go_simp
        refine tree_done ?_
        clear hq
        rename_i x5_1 x5_2 x5_3 x5_4 x5_5 x5_6
        revert W w L hold l cap hl1 hl2 hl3 hinv hsmall hlen D0 hR0 hmay HD0 b2 x1_1 x1_2 b1 bm w1 x1_3 cS0 dc x1_4 x4_1 br w3 x1_5 x1_6 wr u5 u6 u14 u15 u16 u17 u18 u19 u20 u21 u22 u23 u24 u25 u26 u27 u28 u29 u30 u31 u32 u33 u34 u35 u36 u37 u38 u39 u40 u41 u42 u43 u44 u45 u46 u47 u48 u49 u50 u51 u52 u53 u54 u55 u56 u57 u58 u59 u60 u61 u62 u63 u64 u65 u66 u67 u68 u69 u70 u71 u72 u73 u74 u75 u76 u77 u78 u79 u80 u81 u82 u83 u84 u85 u86 k hk R rl sy HF HS hI ok hrow hcnt hsy A2 c2 x3_1 x3_2 A3 c3 x3_3 x3_4 hlt hltI bd od h Ab cb x3_5 rec n hc4 hb k20 hrg x3_6 HSS k29 R' nx HT hnew HC HR' x4_2 x4_3 x4_4 x5_1 x4_5 x4_6 cS d60 d61 b62 w5 b52 x5_2 w2 A55 c55 x5_3 x5_4 w6 A63 c63 x5_5 x5_6 w7 hs
        exact K_scrun_spec_a_b_c_d_e_6.out
    · refine op_lit1 hs rfl Try.underlying29 info_str rfl (strs [rec]) (by omega) rfl (strs_one _) (by first | rfl | (simp [strs, str, Act.eval, Act.put]; done) | (simp [strs, str, Act.eval, Act.put]; rfl)) fun b62 w5 h => hK _ _ (cS _ _ h (by (try dsimp only [List.set]); repeat (first | exact hold | apply List.mem_cons_of_mem))) ?_
      clear hs hK K
      have hs := h
      clear h
      try dsimp only [List.set] at hs
      try go_simp
      refine tree_all (trees_cons_yes (o := _) rfl rfl (fun K hK => ?_) (cS _ _ hs (by (try dsimp only [List.set]); repeat (first | exact hold | apply List.mem_cons_of_mem))) (trees_cons_yes (o := _) rfl rfl (fun K hK => ?_) (cS _ _ hs (by (try dsimp only [List.set]); repeat (first | exact hold | apply List.mem_cons_of_mem))) trees_nil))
      · refine op_lit hs rfl Try.underlying29 info_str [] (by omega) (by simp [Instr.fill]) fun b52 w2 h => hK _ _ (cS _ _ h (by (try dsimp only [List.set]); repeat (first | exact hold | apply List.mem_cons_of_mem))) ?_
        clear hs hK K
        have hs := h
        clear h
        try dsimp only [List.set] at hs
        try go_simp
        refine tree_one_yes (o := _) rfl rfl (fun K hK => ?_) (cS _ _ hs (by (try dsimp only [List.set]); repeat (first | exact hold | apply List.mem_cons_of_mem)))
        refine op_load rfl (ad := ⟨bm, 2, none⟩) rfl (by kernel_rfl) (hs.cell (l := (mdCells b1 br (.slice A2 rl.length c2) (.slice A3 rl.length c3) sy)) (t := 56) (by (try dsimp only [List.set]); repeat (first | with_reducible exact List.mem_cons_self | with_reducible apply List.mem_cons_of_mem)) rfl) (hK _ _ (cS _ _ hs (by (try dsimp only [List.set]); repeat (first | exact hold | apply List.mem_cons_of_mem))) ?_)
        clear hK K
        try go_simp
        refine tree_one_yes (o := _) rfl rfl (fun K hK => ?_) (cS _ _ hs (by (try dsimp only [List.set]); repeat (first | exact hold | apply List.mem_cons_of_mem)))
        refine op_append_new hs rfl Try.underlying29 Try.underlying29 info_str rfl (by omega) rfl (slice_nil _ 1 (Has.mem m0 fun _ _ => trivial)) rfl (Has.mem (A := sl1 (.slice A2 rl.length c2) rl.length (rcsS rl)) (by (try dsimp only [List.set]); repeat (first | with_reducible exact List.mem_cons_self | with_reducible apply List.mem_cons_of_mem)) fun F h => h) (.inr rfl) (by omega) (by omega) fun v55 w2 h => hK _ _ (cS _ _ h (by (try dsimp only [List.set]); repeat (first | exact hold | apply List.mem_cons_of_mem))) ?_
        clear hs hK K
        have hs := h
        clear h
        try dsimp only [List.set] at hs
        rw [Nat.zero_add, List.nil_append] at hs
        obtain ⟨A55, c55, rfl, _, _⟩ := own_slice hs (i := 0) rfl
        try go_simp
        refine tree_one_yes (o := _) rfl rfl (fun K hK => ?_) (cS _ _ hs (by (try dsimp only [List.set]); repeat (first | exact hold | apply List.mem_cons_of_mem)))
        refine op_append (hs.pick (A := own (.slice A55 rl.length c55) 9 rl.length 1 (rcsS rl)) (by repeat (first | with_reducible exact Pick.here | with_reducible apply Pick.there))) rfl Try.underlying29 Try.underlying29 info_str rfl (by omega) (k := 0) rfl rfl rfl (Has.of (A := row b62 (strs [rec]) 9) (by (try dsimp only [List.set]); repeat (first | with_reducible exact List.mem_cons_self | with_reducible apply List.mem_cons_of_mem)) fun F hF => own_sliceAt F (own_exact (n := 1) (sz := 1) rfl (by omega) F hF)) (strs_one _) (by omega) (by omega) fun v63 w6 h => hK _ _ (cS _ _ h (by (try dsimp only [List.set]); repeat (first | exact hold | apply List.mem_cons_of_mem))) ?_
        clear hs hK K
        have hs := h
        clear h
        try dsimp only [List.set] at hs
        obtain ⟨A63, c63, rfl, _, _⟩ := own_slice hs (i := 0) rfl
        try go_simp
        repeat (first
          | (with_reducible refine tree_load (o := ⟨some 60, .load _ _, _, _, _, _⟩) rfl rfl rfl rfl rfl d60 ?_)
          | ((with_reducible refine tree_str (o := ⟨some 61, .convert _ _ _, _, _, _, _⟩) (rec) rfl ?_ rfl Try.underlying36 Try.underlying5 Try.underlying9 ?_ d61 ?_); (rfl); (rfl))
          | (refine tree_take rfl (fun K hK => ?_); go_simp; (first | with_reducible refine hK _ ?_ | (rw [if_neg (by decide)]; with_reducible refine hK _ ?_)); clear hK K))
        refine tree_one_yes (o := _) rfl rfl (fun K hK => ?_) (cS _ _ hs (by (try dsimp only [List.set]); repeat (first | exact hold | apply List.mem_cons_of_mem)))
        refine op_store (hs.pick (A := row bm (mdCells b1 br (.slice A2 rl.length c2) (.slice A3 rl.length c3) sy) 56) (by repeat (first | with_reducible exact Pick.here | with_reducible apply Pick.there))) rfl (b := bm) (i := 2) (v := .slice A63 (rl.length + 1) c63) rfl rfl rfl (by kernel_rfl) (k := 0) rfl (by simp [mdCells]) fun w7 h => hK _ _ (cS _ _ h (by (try dsimp only [List.set]); repeat (first | exact hold | apply List.mem_cons_of_mem))) ?_
        clear hs hK K
        have hs := h
        clear h
        try dsimp only [List.set] at hs
        change Sat W _ (row bm (mdCells b1 br (.slice A63 (rl.length + 1) c63) (.slice A3 rl.length c3) sy) 56 :: _) at hs
        try go_simp
        refine tree_done ?_
        clear hq
        rename_i x5_1 x5_2 x5_3 x5_4 x5_5 x5_6
        revert W w L hold l cap hl1 hl2 hl3 hinv hsmall hlen D0 hR0 hmay HD0 b2 x1_1 x1_2 b1 bm w1 x1_3 cS0 dc x1_4 x4_1 br w3 x1_5 x1_6 wr u5 u6 u14 u15 u16 u17 u18 u19 u20 u21 u22 u23 u24 u25 u26 u27 u28 u29 u30 u31 u32 u33 u34 u35 u36 u37 u38 u39 u40 u41 u42 u43 u44 u45 u46 u47 u48 u49 u50 u51 u52 u53 u54 u55 u56 u57 u58 u59 u60 u61 u62 u63 u64 u65 u66 u67 u68 u69 u70 u71 u72 u73 u74 u75 u76 u77 u78 u79 u80 u81 u82 u83 u84 u85 u86 k hk R rl sy HF HS hI ok hrow hcnt hsy A2 c2 x3_1 x3_2 A3 c3 x3_3 x3_4 hlt hltI bd od h Ab cb x3_5 rec n hc4 hb k20 hrg x3_6 HSS k29 R' nx HT hnew HC HR' x4_2 x4_3 x4_4 x5_1 x4_5 x4_6 cS d60 d61 b62 w5 b52 x5_2 w2 A55 c55 x5_3 x5_4 w6 A63 c63 x5_5 x5_6 w7 hs
        exact K_scrun_spec_a_b_c_d_e_7.out
      · refine op_load rfl (ad := ⟨bm, 2, none⟩) rfl (by kernel_rfl) (hs.cell (l := (mdCells b1 br (.slice A2 rl.length c2) (.slice A3 rl.length c3) sy)) (t := 56) (by (try dsimp only [List.set]); repeat (first | with_reducible exact List.mem_cons_self | with_reducible apply List.mem_cons_of_mem)) rfl) (hK _ _ (cS _ _ hs (by (try dsimp only [List.set]); repeat (first | exact hold | apply List.mem_cons_of_mem))) ?_)
        clear hK K
        try go_simp
        refine tree_one_yes (o := _) rfl rfl (fun K hK => ?_) (cS _ _ hs (by (try dsimp only [List.set]); repeat (first | exact hold | apply List.mem_cons_of_mem)))
        refine op_lit hs rfl Try.underlying29 info_str [] (by omega) (by simp [Instr.fill]) fun b52 w2 h => hK _ _ (cS _ _ h (by (try dsimp only [List.set]); repeat (first | exact hold | apply List.mem_cons_of_mem))) ?_
        clear hs hK K
        have hs := h
        clear h
        try dsimp only [List.set] at hs
        try go_simp
        refine tree_one_yes (o := _) rfl rfl (fun K hK => ?_) (cS _ _ hs (by (try dsimp only [List.set]); repeat (first | exact hold | apply List.mem_cons_of_mem)))
        refine op_append_new hs rfl Try.underlying29 Try.underlying29 info_str rfl (by omega) rfl (slice_nil _ 1 (Has.mem m0 fun _ _ => trivial)) rfl (Has.mem (A := sl1 (.slice A2 rl.length c2) rl.length (rcsS rl)) (by (try dsimp only [List.set]); repeat (first | with_reducible exact List.mem_cons_self | with_reducible apply List.mem_cons_of_mem)) fun F h => h) (.inr rfl) (by omega) (by omega) fun v55 w2 h => hK _ _ (cS _ _ h (by (try dsimp only [List.set]); repeat (first | exact hold | apply List.mem_cons_of_mem))) ?_
        clear hs hK K
        have hs := h
        clear h
        try dsimp only [List.set] at hs
        rw [Nat.zero_add, List.nil_append] at hs
        obtain ⟨A55, c55, rfl, _, _⟩ := own_slice hs (i := 0) rfl
        try go_simp
        refine tree_one_yes (o := _) rfl rfl (fun K hK => ?_) (cS _ _ hs (by (try dsimp only [List.set]); repeat (first | exact hold | apply List.mem_cons_of_mem)))
        refine op_append (hs.pick (A := own (.slice A55 rl.length c55) 9 rl.length 1 (rcsS rl)) (by repeat (first | with_reducible exact Pick.here | with_reducible apply Pick.there))) rfl Try.underlying29 Try.underlying29 info_str rfl (by omega) (k := 0) rfl rfl rfl (Has.of (A := row b62 (strs [rec]) 9) (by (try dsimp only [List.set]); repeat (first | with_reducible exact List.mem_cons_self | with_reducible apply List.mem_cons_of_mem)) fun F hF => own_sliceAt F (own_exact (n := 1) (sz := 1) rfl (by omega) F hF)) (strs_one _) (by omega) (by omega) fun v63 w6 h => hK _ _ (cS _ _ h (by (try dsimp only [List.set]); repeat (first | exact hold | apply List.mem_cons_of_mem))) ?_
        clear hs hK K
        have hs := h
        clear h
        try dsimp only [List.set] at hs
        obtain ⟨A63, c63, rfl, _, _⟩ := own_slice hs (i := 0) rfl
        try go_simp
        repeat (first
          | (with_reducible refine tree_load (o := ⟨some 60, .load _ _, _, _, _, _⟩) rfl rfl rfl rfl rfl d60 ?_)
          | ((with_reducible refine tree_str (o := ⟨some 61, .convert _ _ _, _, _, _, _⟩) (rec) rfl ?_ rfl Try.underlying36 Try.underlying5 Try.underlying9 ?_ d61 ?_); (rfl); (rfl))
          | (refine tree_take rfl (fun K hK => ?_); go_simp; (first | with_reducible refine hK _ ?_ | (rw [if_neg (by decide)]; with_reducible refine hK _ ?_)); clear hK K))
        refine tree_one_yes (o := _) rfl rfl (fun K hK => ?_) (cS _ _ hs (by (try dsimp only [List.set]); repeat (first | exact hold | apply List.mem_cons_of_mem)))
        refine op_store (hs.pick (A := row bm (mdCells b1 br (.slice A2 rl.length c2) (.slice A3 rl.length c3) sy) 56) (by repeat (first | with_reducible exact Pick.here | with_reducible apply Pick.there))) rfl (b := bm) (i := 2) (v := .slice A63 (rl.length + 1) c63) rfl rfl rfl (by kernel_rfl) (k := 0) rfl (by simp [mdCells]) fun w7 h => hK _ _ (cS _ _ h (by (try dsimp only [List.set]); repeat (first | exact hold | apply List.mem_cons_of_mem))) ?_
        clear hs hK K
        have hs := h
        clear h
        try dsimp only [List.set] at hs
        change Sat W _ (row bm (mdCells b1 br (.slice A63 (rl.length + 1) c63) (.slice A3 rl.length c3) sy) 56 :: _) at hs
        try go_simp
        refine tree_done ?_
        clear hq
        rename_i x5_1 x5_2 x5_3 x5_4 x5_5 x5_6
        revert W w L hold l cap hl1 hl2 hl3 hinv hsmall hlen D0 hR0 hmay HD0 b2 x1_1 x1_2 b1 bm w1 x1_3 cS0 dc x1_4 x4_1 br w3 x1_5 x1_6 wr u5 u6 u14 u15 u16 u17 u18 u19 u20 u21 u22 u23 u24 u25 u26 u27 u28 u29 u30 u31 u32 u33 u34 u35 u36 u37 u38 u39 u40 u41 u42 u43 u44 u45 u46 u47 u48 u49 u50 u51 u52 u53 u54 u55 u56 u57 u58 u59 u60 u61 u62 u63 u64 u65 u66 u67 u68 u69 u70 u71 u72 u73 u74 u75 u76 u77 u78 u79 u80 u81 u82 u83 u84 u85 u86 k hk R rl sy HF HS hI ok hrow hcnt hsy A2 c2 x3_1 x3_2 A3 c3 x3_3 x3_4 hlt hltI bd od h Ab cb x3_5 rec n hc4 hb k20 hrg x3_6 HSS k29 R' nx HT hnew HC HR' x4_2 x4_3 x4_4 x5_1 x4_5 x4_6 cS d60 d61 b62 w5 b52 x5_2 w2 A55 c55 x5_3 x5_4 w6 A63 c63 x5_5 x5_6 w7 hs
        exact K_scrun_spec_a_b_c_d_e_8.out
set_option maxRecDepth 100000 in
set_option maxHeartbeats 16000000 in
theorem scrun_spec_a_b_c_d_e : scrun_spec_a_b_c_d_cut.p1 := by
  intro W w L hold l cap hl1 hl2 hl3 hinv hsmall hlen D0 hR0 hmay HD0 b2 x1_1 x1_2 b1 bm w1 x1_3 cS0 dc x1_4 x4_1 br w3 x1_5 x1_6 wr u5 u6 u14 u15 u16 u17 u18 u19 u20 u21 u22 u23 u24 u25 u26 u27 u28 u29 u30 u31 u32 u33 u34 u35 u36 u37 u38 u39 u40 u41 u42 u43 u44 u45 u46 u47 u48 u49 u50 u51 u52 u53 u54 u55 u56 u57 u58 u59 u60 u61 u62 u63 u64 u65 u66 u67 u68 u69 u70 u71 u72 u73 u74 u75 u76 u77 u78 u79 u80 u81 u82 u83 u84 u85 u86 k hk R rl sy HF HS hI ok hrow hcnt hsy A2 c2 x3_1 x3_2 A3 c3 x3_3 x3_4 hlt hltI bd od h Ab cb x3_5 rec n hc4 hb k20 hrg x3_6 HSS k29 R' nx HT hnew HC HR' x4_2 x4_3 x4_4 x5_1 x4_5 x4_6 cS d60 d61 b52 x5_2 w2 A55 c55 x5_3 x5_4 b62 w5 w6 A63 c63 x5_5 x5_6 w7 hs
  go_wp2_with (first
    | (guard_target = wpList _ _ _ (⟨some 65, .buildSlice _ _ _, _, _, _, _⟩ :: _) _ _; refine wpl (o := ⟨some 65, .buildSlice _ _ _, _, _, _, _⟩) rfl fun K hK => ?_; go_must (refine op_lit hs rfl Try.underlying54 info_u32 [] (by omega) (by simp [Instr.fill]) fun b65 w2 h => hK _ _ ?_); clear hs hK K; have hs := h; clear h; try dsimp only [List.set] at hs)
    | (guard_target = wpList _ _ _ (⟨some 67, .load _ _, _, _, _, _⟩ :: _) _ _; refine wpl (o := ⟨some 67, .load _ _, _, _, _, _⟩) rfl fun K hK => op_load rfl (ad := ⟨bm, 3, none⟩) rfl (by kernel_rfl) (hs.cell (l := (mdCells b1 br (.slice A63 (rl.length + 1) c63) (.slice A3 rl.length c3) sy)) (t := 56) (by (try dsimp only [List.set]); repeat (first | with_reducible exact List.mem_cons_self | with_reducible apply List.mem_cons_of_mem)) rfl) (hK _ _ ?_); clear hK K)
    | (guard_target = wpList _ _ _ (⟨some 68, .call _, _, _, _, _⟩ :: _) _ _; refine wpl (o := ⟨some 68, .call _, _, _, _, _⟩) rfl fun K hK => ?_; go_must (refine op_append_new hs rfl Try.underlying54 Try.underlying54 info_u32 rfl (by omega) rfl (slice_nil _ 1 (Has.mem m0 fun _ _ => trivial)) rfl (Has.mem (A := sl1 (.slice A3 rl.length c3) rl.length (rcsN rl)) (by (try dsimp only [List.set]); repeat (first | with_reducible exact List.mem_cons_self | with_reducible apply List.mem_cons_of_mem)) fun F h => h) (.inr rfl) (by omega) (by omega) fun v68 w2 h => hK _ _ ?_); clear hs hK K; have hs := h; clear h
       rw [Nat.zero_add, List.nil_append] at hs
       obtain ⟨A68, c68, rfl, _, _⟩ := own_slice hs (i := 0) rfl)
    | (guard_target = wpList _ _ _ (⟨some 70, .buildSlice _ _ _, _, _, _, _⟩ :: _) _ _; refine wpl (o := ⟨some 70, .buildSlice _ _ _, _, _, _, _⟩) rfl fun K hK => ?_; go_must (refine op_lit1 hs rfl Try.underlying54 info_u32 rfl (u32s [nx]) (by omega) rfl (u32s_one _) (by first | rfl | (simp [u32s, Act.eval, Act.put]; done) | (simp [u32s, Act.eval, Act.put]; rfl)) fun b70 w5 h => hK _ _ ?_); clear hs hK K; have hs := h; clear h; try dsimp only [List.set] at hs)
    | (guard_target = wpList _ _ _ (⟨some 71, .call _, _, _, _, _⟩ :: _) _ _; refine wpl (o := ⟨some 71, .call _, _, _, _, _⟩) rfl fun K hK => ?_; go_must (refine op_append (hs.pick (A := own (.slice A68 rl.length c68) 23 rl.length 1 (rcsN rl)) (by repeat (first | with_reducible exact Pick.here | with_reducible apply Pick.there))) rfl Try.underlying54 Try.underlying54 info_u32 rfl (by omega) (k := 0) rfl rfl rfl (Has.of (A := row b70 (u32s [nx]) 23) (by (try dsimp only [List.set]); repeat (first | with_reducible exact List.mem_cons_self | with_reducible apply List.mem_cons_of_mem)) fun F hF => own_sliceAt F (own_exact (n := 1) (sz := 1) rfl (by omega) F hF)) (u32s_one _) (by omega) (by omega) fun v71 w6 h => hK _ _ ?_); clear hs hK K; have hs := h; clear h; dsimp only [List.set] at hs
       obtain ⟨A71, c71, rfl, _, _⟩ := own_slice hs (i := 0) rfl)
    | (guard_target = wpList _ _ _ (⟨none, .store _ (.tmp 72) _, _, _, _, _⟩ :: _) _ _; refine wpl (o := ⟨none, .store _ (.tmp 72) _, _, _, _, _⟩) rfl fun K hK => ?_; go_must (refine op_store (hs.pick (A := row bm (mdCells b1 br (.slice A63 (rl.length + 1) c63) (.slice A3 rl.length c3) sy) 56) (by repeat (first | with_reducible exact Pick.here | with_reducible apply Pick.there))) rfl (b := bm) (i := 3) (v := .slice A71 (rl.length + 1) c71) rfl rfl rfl (by kernel_rfl) (k := 0) rfl (by simp [mdCells]) fun w7 h => hK _ _ ?_); clear hs hK K; have hs := h; clear h; change Sat W _ (row bm (mdCells b1 br (.slice A63 (rl.length + 1) c63) (.slice A71 (rl.length + 1) c71) sy) 56 :: _) at hs))
  refine ⟨⟨k + 1, .slice A63 (rl.length + 1) c63, .slice A71 (rl.length + 1) c71, by omega, by go_num, ?_⟩, by simp only [intOf]; omega⟩
  have h1 := (hs.pick (A := own (.slice A63 (rl.length + 1) c63) 9 (rl.length + 1) 1 (rcsS rl ++ strs [rec])) (by repeat (first | with_reducible exact Pick.here | with_reducible apply Pick.there))).sub (i := 0) rfl (B := sl1 (.slice A63 (rl.length + 1) c63) (rl.length + 1) (rcsS rl ++ strs [rec])) fun F hF => own_sliceAt F hF
  dsimp only [List.set] at h1
  have h2 := (h1.pick (A := own (.slice A71 (rl.length + 1) c71) 23 (rl.length + 1) 1 (rcsN rl ++ u32s [nx])) (by repeat (first | with_reducible exact Pick.here | with_reducible apply Pick.there))).sub (i := 0) rfl (B := sl1 (.slice A71 (rl.length + 1) c71) (rl.length + 1) (rcsN rl ++ u32s [nx])) fun F hF => own_sliceAt F hF
  dsimp only [List.set] at h2
  have e1 : rcsS (rl ++ [(rec, nx)]) = rcsS rl ++ strs [rec] := by simp [rcsS, strs]
  have e2 : rcsN (rl ++ [(rec, nx)]) = rcsN rl ++ u32s [nx] := by simp [rcsN, u32s]
  have e3 : (rl ++ [(rec, nx)]).length = rl.length + 1 := by simp
  rw [hnew.out]
  dsimp only
  rw [e1, e2, e3]
  exact h2.pack (by repeat (first | with_reducible exact Pack.refl | with_reducible exact Pack.nil | with_reducible refine Pack.cons (by repeat (first | with_reducible exact Pick.here | with_reducible apply Pick.there)) ?_ | with_reducible apply Pack.drop))
set_option maxRecDepth 100000 in
set_option maxHeartbeats 16000000 in
theorem scrun_spec_a_b_c_d_e_2 : scrun_spec_a_b_c_d_cut.p2 := by
  intro W w L hold l cap hl1 hl2 hl3 hinv hsmall hlen D0 hR0 hmay HD0 b2 x1_1 x1_2 b1 bm w1 x1_3 cS0 dc x1_4 x4_1 br w3 x1_5 x1_6 wr u5 u6 u14 u15 u16 u17 u18 u19 u20 u21 u22 u23 u24 u25 u26 u27 u28 u29 u30 u31 u32 u33 u34 u35 u36 u37 u38 u39 u40 u41 u42 u43 u44 u45 u46 u47 u48 u49 u50 u51 u52 u53 u54 u55 u56 u57 u58 u59 u60 u61 u62 u63 u64 u65 u66 u67 u68 u69 u70 u71 u72 u73 u74 u75 u76 u77 u78 u79 u80 u81 u82 u83 u84 u85 u86 k hk R rl sy HF HS hI ok hrow hcnt hsy A2 c2 x3_1 x3_2 A3 c3 x3_3 x3_4 hlt hltI bd od h Ab cb x3_5 rec n hc4 hb k20 hrg x3_6 HSS k29 R' nx HT hnew HC HR' x4_2 x4_3 x4_4 x5_1 x4_5 x4_6 cS d60 d61 b52 x5_2 b62 w5 w2 A55 c55 x5_3 x5_4 w6 A63 c63 x5_5 x5_6 w7 hs
  go_wp2_with (first
    | (guard_target = wpList _ _ _ (⟨some 65, .buildSlice _ _ _, _, _, _, _⟩ :: _) _ _; refine wpl (o := ⟨some 65, .buildSlice _ _ _, _, _, _, _⟩) rfl fun K hK => ?_; go_must (refine op_lit hs rfl Try.underlying54 info_u32 [] (by omega) (by simp [Instr.fill]) fun b65 w2 h => hK _ _ ?_); clear hs hK K; have hs := h; clear h; try dsimp only [List.set] at hs)
    | (guard_target = wpList _ _ _ (⟨some 67, .load _ _, _, _, _, _⟩ :: _) _ _; refine wpl (o := ⟨some 67, .load _ _, _, _, _, _⟩) rfl fun K hK => op_load rfl (ad := ⟨bm, 3, none⟩) rfl (by kernel_rfl) (hs.cell (l := (mdCells b1 br (.slice A63 (rl.length + 1) c63) (.slice A3 rl.length c3) sy)) (t := 56) (by (try dsimp only [List.set]); repeat (first | with_reducible exact List.mem_cons_self | with_reducible apply List.mem_cons_of_mem)) rfl) (hK _ _ ?_); clear hK K)
    | (guard_target = wpList _ _ _ (⟨some 68, .call _, _, _, _, _⟩ :: _) _ _; refine wpl (o := ⟨some 68, .call _, _, _, _, _⟩) rfl fun K hK => ?_; go_must (refine op_append_new hs rfl Try.underlying54 Try.underlying54 info_u32 rfl (by omega) rfl (slice_nil _ 1 (Has.mem m0 fun _ _ => trivial)) rfl (Has.mem (A := sl1 (.slice A3 rl.length c3) rl.length (rcsN rl)) (by (try dsimp only [List.set]); repeat (first | with_reducible exact List.mem_cons_self | with_reducible apply List.mem_cons_of_mem)) fun F h => h) (.inr rfl) (by omega) (by omega) fun v68 w2 h => hK _ _ ?_); clear hs hK K; have hs := h; clear h
       rw [Nat.zero_add, List.nil_append] at hs
       obtain ⟨A68, c68, rfl, _, _⟩ := own_slice hs (i := 0) rfl)
    | (guard_target = wpList _ _ _ (⟨some 70, .buildSlice _ _ _, _, _, _, _⟩ :: _) _ _; refine wpl (o := ⟨some 70, .buildSlice _ _ _, _, _, _, _⟩) rfl fun K hK => ?_; go_must (refine op_lit1 hs rfl Try.underlying54 info_u32 rfl (u32s [nx]) (by omega) rfl (u32s_one _) (by first | rfl | (simp [u32s, Act.eval, Act.put]; done) | (simp [u32s, Act.eval, Act.put]; rfl)) fun b70 w5 h => hK _ _ ?_); clear hs hK K; have hs := h; clear h; try dsimp only [List.set] at hs)
    | (guard_target = wpList _ _ _ (⟨some 71, .call _, _, _, _, _⟩ :: _) _ _; refine wpl (o := ⟨some 71, .call _, _, _, _, _⟩) rfl fun K hK => ?_; go_must (refine op_append (hs.pick (A := own (.slice A68 rl.length c68) 23 rl.length 1 (rcsN rl)) (by repeat (first | with_reducible exact Pick.here | with_reducible apply Pick.there))) rfl Try.underlying54 Try.underlying54 info_u32 rfl (by omega) (k := 0) rfl rfl rfl (Has.of (A := row b70 (u32s [nx]) 23) (by (try dsimp only [List.set]); repeat (first | with_reducible exact List.mem_cons_self | with_reducible apply List.mem_cons_of_mem)) fun F hF => own_sliceAt F (own_exact (n := 1) (sz := 1) rfl (by omega) F hF)) (u32s_one _) (by omega) (by omega) fun v71 w6 h => hK _ _ ?_); clear hs hK K; have hs := h; clear h; dsimp only [List.set] at hs
       obtain ⟨A71, c71, rfl, _, _⟩ := own_slice hs (i := 0) rfl)
    | (guard_target = wpList _ _ _ (⟨none, .store _ (.tmp 72) _, _, _, _, _⟩ :: _) _ _; refine wpl (o := ⟨none, .store _ (.tmp 72) _, _, _, _, _⟩) rfl fun K hK => ?_; go_must (refine op_store (hs.pick (A := row bm (mdCells b1 br (.slice A63 (rl.length + 1) c63) (.slice A3 rl.length c3) sy) 56) (by repeat (first | with_reducible exact Pick.here | with_reducible apply Pick.there))) rfl (b := bm) (i := 3) (v := .slice A71 (rl.length + 1) c71) rfl rfl rfl (by kernel_rfl) (k := 0) rfl (by simp [mdCells]) fun w7 h => hK _ _ ?_); clear hs hK K; have hs := h; clear h; change Sat W _ (row bm (mdCells b1 br (.slice A63 (rl.length + 1) c63) (.slice A71 (rl.length + 1) c71) sy) 56 :: _) at hs))
  refine ⟨⟨k + 1, .slice A63 (rl.length + 1) c63, .slice A71 (rl.length + 1) c71, by omega, by go_num, ?_⟩, by simp only [intOf]; omega⟩
  have h1 := (hs.pick (A := own (.slice A63 (rl.length + 1) c63) 9 (rl.length + 1) 1 (rcsS rl ++ strs [rec])) (by repeat (first | with_reducible exact Pick.here | with_reducible apply Pick.there))).sub (i := 0) rfl (B := sl1 (.slice A63 (rl.length + 1) c63) (rl.length + 1) (rcsS rl ++ strs [rec])) fun F hF => own_sliceAt F hF
  dsimp only [List.set] at h1
  have h2 := (h1.pick (A := own (.slice A71 (rl.length + 1) c71) 23 (rl.length + 1) 1 (rcsN rl ++ u32s [nx])) (by repeat (first | with_reducible exact Pick.here | with_reducible apply Pick.there))).sub (i := 0) rfl (B := sl1 (.slice A71 (rl.length + 1) c71) (rl.length + 1) (rcsN rl ++ u32s [nx])) fun F hF => own_sliceAt F hF
  dsimp only [List.set] at h2
  have e1 : rcsS (rl ++ [(rec, nx)]) = rcsS rl ++ strs [rec] := by simp [rcsS, strs]
  have e2 : rcsN (rl ++ [(rec, nx)]) = rcsN rl ++ u32s [nx] := by simp [rcsN, u32s]
  have e3 : (rl ++ [(rec, nx)]).length = rl.length + 1 := by simp
  rw [hnew.out]
  dsimp only
  rw [e1, e2, e3]
  exact h2.pack (by repeat (first | with_reducible exact Pack.refl | with_reducible exact Pack.nil | with_reducible refine Pack.cons (by repeat (first | with_reducible exact Pick.here | with_reducible apply Pick.there)) ?_ | with_reducible apply Pack.drop))
set_option maxRecDepth 100000 in
set_option maxHeartbeats 16000000 in
theorem scrun_spec_a_b_c_d_e_3 : scrun_spec_a_b_c_d_cut.p3 := by
  intro W w L hold l cap hl1 hl2 hl3 hinv hsmall hlen D0 hR0 hmay HD0 b2 x1_1 x1_2 b1 bm w1 x1_3 cS0 dc x1_4 x4_1 br w3 x1_5 x1_6 wr u5 u6 u14 u15 u16 u17 u18 u19 u20 u21 u22 u23 u24 u25 u26 u27 u28 u29 u30 u31 u32 u33 u34 u35 u36 u37 u38 u39 u40 u41 u42 u43 u44 u45 u46 u47 u48 u49 u50 u51 u52 u53 u54 u55 u56 u57 u58 u59 u60 u61 u62 u63 u64 u65 u66 u67 u68 u69 u70 u71 u72 u73 u74 u75 u76 u77 u78 u79 u80 u81 u82 u83 u84 u85 u86 k hk R rl sy HF HS hI ok hrow hcnt hsy A2 c2 x3_1 x3_2 A3 c3 x3_3 x3_4 hlt hltI bd od h Ab cb x3_5 rec n hc4 hb k20 hrg x3_6 HSS k29 R' nx HT hnew HC HR' x4_2 x4_3 x4_4 x5_1 x4_5 x4_6 cS d60 d61 b52 x5_2 b62 w5 w2 A55 c55 x5_3 x5_4 w6 A63 c63 x5_5 x5_6 w7 hs
  go_wp2_with (first
    | (guard_target = wpList _ _ _ (⟨some 65, .buildSlice _ _ _, _, _, _, _⟩ :: _) _ _; refine wpl (o := ⟨some 65, .buildSlice _ _ _, _, _, _, _⟩) rfl fun K hK => ?_; go_must (refine op_lit hs rfl Try.underlying54 info_u32 [] (by omega) (by simp [Instr.fill]) fun b65 w2 h => hK _ _ ?_); clear hs hK K; have hs := h; clear h; try dsimp only [List.set] at hs)
    | (guard_target = wpList _ _ _ (⟨some 67, .load _ _, _, _, _, _⟩ :: _) _ _; refine wpl (o := ⟨some 67, .load _ _, _, _, _, _⟩) rfl fun K hK => op_load rfl (ad := ⟨bm, 3, none⟩) rfl (by kernel_rfl) (hs.cell (l := (mdCells b1 br (.slice A63 (rl.length + 1) c63) (.slice A3 rl.length c3) sy)) (t := 56) (by (try dsimp only [List.set]); repeat (first | with_reducible exact List.mem_cons_self | with_reducible apply List.mem_cons_of_mem)) rfl) (hK _ _ ?_); clear hK K)
    | (guard_target = wpList _ _ _ (⟨some 68, .call _, _, _, _, _⟩ :: _) _ _; refine wpl (o := ⟨some 68, .call _, _, _, _, _⟩) rfl fun K hK => ?_; go_must (refine op_append_new hs rfl Try.underlying54 Try.underlying54 info_u32 rfl (by omega) rfl (slice_nil _ 1 (Has.mem m0 fun _ _ => trivial)) rfl (Has.mem (A := sl1 (.slice A3 rl.length c3) rl.length (rcsN rl)) (by (try dsimp only [List.set]); repeat (first | with_reducible exact List.mem_cons_self | with_reducible apply List.mem_cons_of_mem)) fun F h => h) (.inr rfl) (by omega) (by omega) fun v68 w2 h => hK _ _ ?_); clear hs hK K; have hs := h; clear h
       rw [Nat.zero_add, List.nil_append] at hs
       obtain ⟨A68, c68, rfl, _, _⟩ := own_slice hs (i := 0) rfl)
    | (guard_target = wpList _ _ _ (⟨some 70, .buildSlice _ _ _, _, _, _, _⟩ :: _) _ _; refine wpl (o := ⟨some 70, .buildSlice _ _ _, _, _, _, _⟩) rfl fun K hK => ?_; go_must (refine op_lit1 hs rfl Try.underlying54 info_u32 rfl (u32s [nx]) (by omega) rfl (u32s_one _) (by first | rfl | (simp [u32s, Act.eval, Act.put]; done) | (simp [u32s, Act.eval, Act.put]; rfl)) fun b70 w5 h => hK _ _ ?_); clear hs hK K; have hs := h; clear h; try dsimp only [List.set] at hs)
    | (guard_target = wpList _ _ _ (⟨some 71, .call _, _, _, _, _⟩ :: _) _ _; refine wpl (o := ⟨some 71, .call _, _, _, _, _⟩) rfl fun K hK => ?_; go_must (refine op_append (hs.pick (A := own (.slice A68 rl.length c68) 23 rl.length 1 (rcsN rl)) (by repeat (first | with_reducible exact Pick.here | with_reducible apply Pick.there))) rfl Try.underlying54 Try.underlying54 info_u32 rfl (by omega) (k := 0) rfl rfl rfl (Has.of (A := row b70 (u32s [nx]) 23) (by (try dsimp only [List.set]); repeat (first | with_reducible exact List.mem_cons_self | with_reducible apply List.mem_cons_of_mem)) fun F hF => own_sliceAt F (own_exact (n := 1) (sz := 1) rfl (by omega) F hF)) (u32s_one _) (by omega) (by omega) fun v71 w6 h => hK _ _ ?_); clear hs hK K; have hs := h; clear h; dsimp only [List.set] at hs
       obtain ⟨A71, c71, rfl, _, _⟩ := own_slice hs (i := 0) rfl)
    | (guard_target = wpList _ _ _ (⟨none, .store _ (.tmp 72) _, _, _, _, _⟩ :: _) _ _; refine wpl (o := ⟨none, .store _ (.tmp 72) _, _, _, _, _⟩) rfl fun K hK => ?_; go_must (refine op_store (hs.pick (A := row bm (mdCells b1 br (.slice A63 (rl.length + 1) c63) (.slice A3 rl.length c3) sy) 56) (by repeat (first | with_reducible exact Pick.here | with_reducible apply Pick.there))) rfl (b := bm) (i := 3) (v := .slice A71 (rl.length + 1) c71) rfl rfl rfl (by kernel_rfl) (k := 0) rfl (by simp [mdCells]) fun w7 h => hK _ _ ?_); clear hs hK K; have hs := h; clear h; change Sat W _ (row bm (mdCells b1 br (.slice A63 (rl.length + 1) c63) (.slice A71 (rl.length + 1) c71) sy) 56 :: _) at hs))
  refine ⟨⟨k + 1, .slice A63 (rl.length + 1) c63, .slice A71 (rl.length + 1) c71, by omega, by go_num, ?_⟩, by simp only [intOf]; omega⟩
  have h1 := (hs.pick (A := own (.slice A63 (rl.length + 1) c63) 9 (rl.length + 1) 1 (rcsS rl ++ strs [rec])) (by repeat (first | with_reducible exact Pick.here | with_reducible apply Pick.there))).sub (i := 0) rfl (B := sl1 (.slice A63 (rl.length + 1) c63) (rl.length + 1) (rcsS rl ++ strs [rec])) fun F hF => own_sliceAt F hF
  dsimp only [List.set] at h1
  have h2 := (h1.pick (A := own (.slice A71 (rl.length + 1) c71) 23 (rl.length + 1) 1 (rcsN rl ++ u32s [nx])) (by repeat (first | with_reducible exact Pick.here | with_reducible apply Pick.there))).sub (i := 0) rfl (B := sl1 (.slice A71 (rl.length + 1) c71) (rl.length + 1) (rcsN rl ++ u32s [nx])) fun F hF => own_sliceAt F hF
  dsimp only [List.set] at h2
  have e1 : rcsS (rl ++ [(rec, nx)]) = rcsS rl ++ strs [rec] := by simp [rcsS, strs]
  have e2 : rcsN (rl ++ [(rec, nx)]) = rcsN rl ++ u32s [nx] := by simp [rcsN, u32s]
  have e3 : (rl ++ [(rec, nx)]).length = rl.length + 1 := by simp
  rw [hnew.out]
  dsimp only
  rw [e1, e2, e3]
  exact h2.pack (by repeat (first | with_reducible exact Pack.refl | with_reducible exact Pack.nil | with_reducible refine Pack.cons (by repeat (first | with_reducible exact Pick.here | with_reducible apply Pick.there)) ?_ | with_reducible apply Pack.drop))
set_option maxRecDepth 100000 in
set_option maxHeartbeats 16000000 in
theorem scrun_spec_a_b_c_d_e_4 : scrun_spec_a_b_c_d_cut.p4 := by
  intro W w L hold l cap hl1 hl2 hl3 hinv hsmall hlen D0 hR0 hmay HD0 b2 x1_1 x1_2 b1 bm w1 x1_3 cS0 dc x1_4 x4_1 br w3 x1_5 x1_6 wr u5 u6 u14 u15 u16 u17 u18 u19 u20 u21 u22 u23 u24 u25 u26 u27 u28 u29 u30 u31 u32 u33 u34 u35 u36 u37 u38 u39 u40 u41 u42 u43 u44 u45 u46 u47 u48 u49 u50 u51 u52 u53 u54 u55 u56 u57 u58 u59 u60 u61 u62 u63 u64 u65 u66 u67 u68 u69 u70 u71 u72 u73 u74 u75 u76 u77 u78 u79 u80 u81 u82 u83 u84 u85 u86 k hk R rl sy HF HS hI ok hrow hcnt hsy A2 c2 x3_1 x3_2 A3 c3 x3_3 x3_4 hlt hltI bd od h Ab cb x3_5 rec n hc4 hb k20 hrg x3_6 HSS k29 R' nx HT hnew HC HR' x4_2 x4_3 x4_4 x5_1 x4_5 x4_6 cS d60 d61 b52 x5_2 w2 A55 c55 x5_3 x5_4 b62 w5 w6 A63 c63 x5_5 x5_6 w7 hs
  go_wp2_with (first
    | (guard_target = wpList _ _ _ (⟨some 65, .buildSlice _ _ _, _, _, _, _⟩ :: _) _ _; refine wpl (o := ⟨some 65, .buildSlice _ _ _, _, _, _, _⟩) rfl fun K hK => ?_; go_must (refine op_lit hs rfl Try.underlying54 info_u32 [] (by omega) (by simp [Instr.fill]) fun b65 w2 h => hK _ _ ?_); clear hs hK K; have hs := h; clear h; try dsimp only [List.set] at hs)
    | (guard_target = wpList _ _ _ (⟨some 67, .load _ _, _, _, _, _⟩ :: _) _ _; refine wpl (o := ⟨some 67, .load _ _, _, _, _, _⟩) rfl fun K hK => op_load rfl (ad := ⟨bm, 3, none⟩) rfl (by kernel_rfl) (hs.cell (l := (mdCells b1 br (.slice A63 (rl.length + 1) c63) (.slice A3 rl.length c3) sy)) (t := 56) (by (try dsimp only [List.set]); repeat (first | with_reducible exact List.mem_cons_self | with_reducible apply List.mem_cons_of_mem)) rfl) (hK _ _ ?_); clear hK K)
    | (guard_target = wpList _ _ _ (⟨some 68, .call _, _, _, _, _⟩ :: _) _ _; refine wpl (o := ⟨some 68, .call _, _, _, _, _⟩) rfl fun K hK => ?_; go_must (refine op_append_new hs rfl Try.underlying54 Try.underlying54 info_u32 rfl (by omega) rfl (slice_nil _ 1 (Has.mem m0 fun _ _ => trivial)) rfl (Has.mem (A := sl1 (.slice A3 rl.length c3) rl.length (rcsN rl)) (by (try dsimp only [List.set]); repeat (first | with_reducible exact List.mem_cons_self | with_reducible apply List.mem_cons_of_mem)) fun F h => h) (.inr rfl) (by omega) (by omega) fun v68 w2 h => hK _ _ ?_); clear hs hK K; have hs := h; clear h
       rw [Nat.zero_add, List.nil_append] at hs
       obtain ⟨A68, c68, rfl, _, _⟩ := own_slice hs (i := 0) rfl)
    | (guard_target = wpList _ _ _ (⟨some 70, .buildSlice _ _ _, _, _, _, _⟩ :: _) _ _; refine wpl (o := ⟨some 70, .buildSlice _ _ _, _, _, _, _⟩) rfl fun K hK => ?_; go_must (refine op_lit1 hs rfl Try.underlying54 info_u32 rfl (u32s [nx]) (by omega) rfl (u32s_one _) (by first | rfl | (simp [u32s, Act.eval, Act.put]; done) | (simp [u32s, Act.eval, Act.put]; rfl)) fun b70 w5 h => hK _ _ ?_); clear hs hK K; have hs := h; clear h; try dsimp only [List.set] at hs)
    | (guard_target = wpList _ _ _ (⟨some 71, .call _, _, _, _, _⟩ :: _) _ _; refine wpl (o := ⟨some 71, .call _, _, _, _, _⟩) rfl fun K hK => ?_; go_must (refine op_append (hs.pick (A := own (.slice A68 rl.length c68) 23 rl.length 1 (rcsN rl)) (by repeat (first | with_reducible exact Pick.here | with_reducible apply Pick.there))) rfl Try.underlying54 Try.underlying54 info_u32 rfl (by omega) (k := 0) rfl rfl rfl (Has.of (A := row b70 (u32s [nx]) 23) (by (try dsimp only [List.set]); repeat (first | with_reducible exact List.mem_cons_self | with_reducible apply List.mem_cons_of_mem)) fun F hF => own_sliceAt F (own_exact (n := 1) (sz := 1) rfl (by omega) F hF)) (u32s_one _) (by omega) (by omega) fun v71 w6 h => hK _ _ ?_); clear hs hK K; have hs := h; clear h; dsimp only [List.set] at hs
       obtain ⟨A71, c71, rfl, _, _⟩ := own_slice hs (i := 0) rfl)
    | (guard_target = wpList _ _ _ (⟨none, .store _ (.tmp 72) _, _, _, _, _⟩ :: _) _ _; refine wpl (o := ⟨none, .store _ (.tmp 72) _, _, _, _, _⟩) rfl fun K hK => ?_; go_must (refine op_store (hs.pick (A := row bm (mdCells b1 br (.slice A63 (rl.length + 1) c63) (.slice A3 rl.length c3) sy) 56) (by repeat (first | with_reducible exact Pick.here | with_reducible apply Pick.there))) rfl (b := bm) (i := 3) (v := .slice A71 (rl.length + 1) c71) rfl rfl rfl (by kernel_rfl) (k := 0) rfl (by simp [mdCells]) fun w7 h => hK _ _ ?_); clear hs hK K; have hs := h; clear h; change Sat W _ (row bm (mdCells b1 br (.slice A63 (rl.length + 1) c63) (.slice A71 (rl.length + 1) c71) sy) 56 :: _) at hs))
  refine ⟨⟨k + 1, .slice A63 (rl.length + 1) c63, .slice A71 (rl.length + 1) c71, by omega, by go_num, ?_⟩, by simp only [intOf]; omega⟩
  have h1 := (hs.pick (A := own (.slice A63 (rl.length + 1) c63) 9 (rl.length + 1) 1 (rcsS rl ++ strs [rec])) (by repeat (first | with_reducible exact Pick.here | with_reducible apply Pick.there))).sub (i := 0) rfl (B := sl1 (.slice A63 (rl.length + 1) c63) (rl.length + 1) (rcsS rl ++ strs [rec])) fun F hF => own_sliceAt F hF
  dsimp only [List.set] at h1
  have h2 := (h1.pick (A := own (.slice A71 (rl.length + 1) c71) 23 (rl.length + 1) 1 (rcsN rl ++ u32s [nx])) (by repeat (first | with_reducible exact Pick.here | with_reducible apply Pick.there))).sub (i := 0) rfl (B := sl1 (.slice A71 (rl.length + 1) c71) (rl.length + 1) (rcsN rl ++ u32s [nx])) fun F hF => own_sliceAt F hF
  dsimp only [List.set] at h2
  have e1 : rcsS (rl ++ [(rec, nx)]) = rcsS rl ++ strs [rec] := by simp [rcsS, strs]
  have e2 : rcsN (rl ++ [(rec, nx)]) = rcsN rl ++ u32s [nx] := by simp [rcsN, u32s]
  have e3 : (rl ++ [(rec, nx)]).length = rl.length + 1 := by simp
  rw [hnew.out]
  dsimp only
  rw [e1, e2, e3]
  exact h2.pack (by repeat (first | with_reducible exact Pack.refl | with_reducible exact Pack.nil | with_reducible refine Pack.cons (by repeat (first | with_reducible exact Pick.here | with_reducible apply Pick.there)) ?_ | with_reducible apply Pack.drop))
set_option maxRecDepth 100000 in
set_option maxHeartbeats 16000000 in
theorem scrun_spec_a_b_c_d_e_5 : scrun_spec_a_b_c_d_cut.p5 := by
  intro W w L hold l cap hl1 hl2 hl3 hinv hsmall hlen D0 hR0 hmay HD0 b2 x1_1 x1_2 b1 bm w1 x1_3 cS0 dc x1_4 x4_1 br w3 x1_5 x1_6 wr u5 u6 u14 u15 u16 u17 u18 u19 u20 u21 u22 u23 u24 u25 u26 u27 u28 u29 u30 u31 u32 u33 u34 u35 u36 u37 u38 u39 u40 u41 u42 u43 u44 u45 u46 u47 u48 u49 u50 u51 u52 u53 u54 u55 u56 u57 u58 u59 u60 u61 u62 u63 u64 u65 u66 u67 u68 u69 u70 u71 u72 u73 u74 u75 u76 u77 u78 u79 u80 u81 u82 u83 u84 u85 u86 k hk R rl sy HF HS hI ok hrow hcnt hsy A2 c2 x3_1 x3_2 A3 c3 x3_3 x3_4 hlt hltI bd od h Ab cb x3_5 rec n hc4 hb k20 hrg x3_6 HSS k29 R' nx HT hnew HC HR' x4_2 x4_3 x4_4 x5_1 x4_5 x4_6 cS d60 d61 b52 x5_2 b62 w5 w2 A55 c55 x5_3 x5_4 w6 A63 c63 x5_5 x5_6 w7 hs
  go_wp2_with (first
    | (guard_target = wpList _ _ _ (⟨some 65, .buildSlice _ _ _, _, _, _, _⟩ :: _) _ _; refine wpl (o := ⟨some 65, .buildSlice _ _ _, _, _, _, _⟩) rfl fun K hK => ?_; go_must (refine op_lit hs rfl Try.underlying54 info_u32 [] (by omega) (by simp [Instr.fill]) fun b65 w2 h => hK _ _ ?_); clear hs hK K; have hs := h; clear h; try dsimp only [List.set] at hs)
    | (guard_target = wpList _ _ _ (⟨some 67, .load _ _, _, _, _, _⟩ :: _) _ _; refine wpl (o := ⟨some 67, .load _ _, _, _, _, _⟩) rfl fun K hK => op_load rfl (ad := ⟨bm, 3, none⟩) rfl (by kernel_rfl) (hs.cell (l := (mdCells b1 br (.slice A63 (rl.length + 1) c63) (.slice A3 rl.length c3) sy)) (t := 56) (by (try dsimp only [List.set]); repeat (first | with_reducible exact List.mem_cons_self | with_reducible apply List.mem_cons_of_mem)) rfl) (hK _ _ ?_); clear hK K)
    | (guard_target = wpList _ _ _ (⟨some 68, .call _, _, _, _, _⟩ :: _) _ _; refine wpl (o := ⟨some 68, .call _, _, _, _, _⟩) rfl fun K hK => ?_; go_must (refine op_append_new hs rfl Try.underlying54 Try.underlying54 info_u32 rfl (by omega) rfl (slice_nil _ 1 (Has.mem m0 fun _ _ => trivial)) rfl (Has.mem (A := sl1 (.slice A3 rl.length c3) rl.length (rcsN rl)) (by (try dsimp only [List.set]); repeat (first | with_reducible exact List.mem_cons_self | with_reducible apply List.mem_cons_of_mem)) fun F h => h) (.inr rfl) (by omega) (by omega) fun v68 w2 h => hK _ _ ?_); clear hs hK K; have hs := h; clear h
       rw [Nat.zero_add, List.nil_append] at hs
       obtain ⟨A68, c68, rfl, _, _⟩ := own_slice hs (i := 0) rfl)
    | (guard_target = wpList _ _ _ (⟨some 70, .buildSlice _ _ _, _, _, _, _⟩ :: _) _ _; refine wpl (o := ⟨some 70, .buildSlice _ _ _, _, _, _, _⟩) rfl fun K hK => ?_; go_must (refine op_lit1 hs rfl Try.underlying54 info_u32 rfl (u32s [nx]) (by omega) rfl (u32s_one _) (by first | rfl | (simp [u32s, Act.eval, Act.put]; done) | (simp [u32s, Act.eval, Act.put]; rfl)) fun b70 w5 h => hK _ _ ?_); clear hs hK K; have hs := h; clear h; try dsimp only [List.set] at hs)
    | (guard_target = wpList _ _ _ (⟨some 71, .call _, _, _, _, _⟩ :: _) _ _; refine wpl (o := ⟨some 71, .call _, _, _, _, _⟩) rfl fun K hK => ?_; go_must (refine op_append (hs.pick (A := own (.slice A68 rl.length c68) 23 rl.length 1 (rcsN rl)) (by repeat (first | with_reducible exact Pick.here | with_reducible apply Pick.there))) rfl Try.underlying54 Try.underlying54 info_u32 rfl (by omega) (k := 0) rfl rfl rfl (Has.of (A := row b70 (u32s [nx]) 23) (by (try dsimp only [List.set]); repeat (first | with_reducible exact List.mem_cons_self | with_reducible apply List.mem_cons_of_mem)) fun F hF => own_sliceAt F (own_exact (n := 1) (sz := 1) rfl (by omega) F hF)) (u32s_one _) (by omega) (by omega) fun v71 w6 h => hK _ _ ?_); clear hs hK K; have hs := h; clear h; dsimp only [List.set] at hs
       obtain ⟨A71, c71, rfl, _, _⟩ := own_slice hs (i := 0) rfl)
    | (guard_target = wpList _ _ _ (⟨none, .store _ (.tmp 72) _, _, _, _, _⟩ :: _) _ _; refine wpl (o := ⟨none, .store _ (.tmp 72) _, _, _, _, _⟩) rfl fun K hK => ?_; go_must (refine op_store (hs.pick (A := row bm (mdCells b1 br (.slice A63 (rl.length + 1) c63) (.slice A3 rl.length c3) sy) 56) (by repeat (first | with_reducible exact Pick.here | with_reducible apply Pick.there))) rfl (b := bm) (i := 3) (v := .slice A71 (rl.length + 1) c71) rfl rfl rfl (by kernel_rfl) (k := 0) rfl (by simp [mdCells]) fun w7 h => hK _ _ ?_); clear hs hK K; have hs := h; clear h; change Sat W _ (row bm (mdCells b1 br (.slice A63 (rl.length + 1) c63) (.slice A71 (rl.length + 1) c71) sy) 56 :: _) at hs))
  refine ⟨⟨k + 1, .slice A63 (rl.length + 1) c63, .slice A71 (rl.length + 1) c71, by omega, by go_num, ?_⟩, by simp only [intOf]; omega⟩
  have h1 := (hs.pick (A := own (.slice A63 (rl.length + 1) c63) 9 (rl.length + 1) 1 (rcsS rl ++ strs [rec])) (by repeat (first | with_reducible exact Pick.here | with_reducible apply Pick.there))).sub (i := 0) rfl (B := sl1 (.slice A63 (rl.length + 1) c63) (rl.length + 1) (rcsS rl ++ strs [rec])) fun F hF => own_sliceAt F hF
  dsimp only [List.set] at h1
  have h2 := (h1.pick (A := own (.slice A71 (rl.length + 1) c71) 23 (rl.length + 1) 1 (rcsN rl ++ u32s [nx])) (by repeat (first | with_reducible exact Pick.here | with_reducible apply Pick.there))).sub (i := 0) rfl (B := sl1 (.slice A71 (rl.length + 1) c71) (rl.length + 1) (rcsN rl ++ u32s [nx])) fun F hF => own_sliceAt F hF
  dsimp only [List.set] at h2
  have e1 : rcsS (rl ++ [(rec, nx)]) = rcsS rl ++ strs [rec] := by simp [rcsS, strs]
  have e2 : rcsN (rl ++ [(rec, nx)]) = rcsN rl ++ u32s [nx] := by simp [rcsN, u32s]
  have e3 : (rl ++ [(rec, nx)]).length = rl.length + 1 := by simp
  rw [hnew.out]
  dsimp only
  rw [e1, e2, e3]
  exact h2.pack (by repeat (first | with_reducible exact Pack.refl | with_reducible exact Pack.nil | with_reducible refine Pack.cons (by repeat (first | with_reducible exact Pick.here | with_reducible apply Pick.there)) ?_ | with_reducible apply Pack.drop))
set_option maxRecDepth 100000 in
set_option maxHeartbeats 16000000 in
theorem scrun_spec_a_b_c_d_e_6 : scrun_spec_a_b_c_d_cut.p6 := by
  intro W w L hold l cap hl1 hl2 hl3 hinv hsmall hlen D0 hR0 hmay HD0 b2 x1_1 x1_2 b1 bm w1 x1_3 cS0 dc x1_4 x4_1 br w3 x1_5 x1_6 wr u5 u6 u14 u15 u16 u17 u18 u19 u20 u21 u22 u23 u24 u25 u26 u27 u28 u29 u30 u31 u32 u33 u34 u35 u36 u37 u38 u39 u40 u41 u42 u43 u44 u45 u46 u47 u48 u49 u50 u51 u52 u53 u54 u55 u56 u57 u58 u59 u60 u61 u62 u63 u64 u65 u66 u67 u68 u69 u70 u71 u72 u73 u74 u75 u76 u77 u78 u79 u80 u81 u82 u83 u84 u85 u86 k hk R rl sy HF HS hI ok hrow hcnt hsy A2 c2 x3_1 x3_2 A3 c3 x3_3 x3_4 hlt hltI bd od h Ab cb x3_5 rec n hc4 hb k20 hrg x3_6 HSS k29 R' nx HT hnew HC HR' x4_2 x4_3 x4_4 x5_1 x4_5 x4_6 cS d60 d61 b62 w5 b52 x5_2 w2 A55 c55 x5_3 x5_4 w6 A63 c63 x5_5 x5_6 w7 hs
  go_wp2_with (first
    | (guard_target = wpList _ _ _ (⟨some 65, .buildSlice _ _ _, _, _, _, _⟩ :: _) _ _; refine wpl (o := ⟨some 65, .buildSlice _ _ _, _, _, _, _⟩) rfl fun K hK => ?_; go_must (refine op_lit hs rfl Try.underlying54 info_u32 [] (by omega) (by simp [Instr.fill]) fun b65 w2 h => hK _ _ ?_); clear hs hK K; have hs := h; clear h; try dsimp only [List.set] at hs)
    | (guard_target = wpList _ _ _ (⟨some 67, .load _ _, _, _, _, _⟩ :: _) _ _; refine wpl (o := ⟨some 67, .load _ _, _, _, _, _⟩) rfl fun K hK => op_load rfl (ad := ⟨bm, 3, none⟩) rfl (by kernel_rfl) (hs.cell (l := (mdCells b1 br (.slice A63 (rl.length + 1) c63) (.slice A3 rl.length c3) sy)) (t := 56) (by (try dsimp only [List.set]); repeat (first | with_reducible exact List.mem_cons_self | with_reducible apply List.mem_cons_of_mem)) rfl) (hK _ _ ?_); clear hK K)
    | (guard_target = wpList _ _ _ (⟨some 68, .call _, _, _, _, _⟩ :: _) _ _; refine wpl (o := ⟨some 68, .call _, _, _, _, _⟩) rfl fun K hK => ?_; go_must (refine op_append_new hs rfl Try.underlying54 Try.underlying54 info_u32 rfl (by omega) rfl (slice_nil _ 1 (Has.mem m0 fun _ _ => trivial)) rfl (Has.mem (A := sl1 (.slice A3 rl.length c3) rl.length (rcsN rl)) (by (try dsimp only [List.set]); repeat (first | with_reducible exact List.mem_cons_self | with_reducible apply List.mem_cons_of_mem)) fun F h => h) (.inr rfl) (by omega) (by omega) fun v68 w2 h => hK _ _ ?_); clear hs hK K; have hs := h; clear h
       rw [Nat.zero_add, List.nil_append] at hs
       obtain ⟨A68, c68, rfl, _, _⟩ := own_slice hs (i := 0) rfl)
    | (guard_target = wpList _ _ _ (⟨some 70, .buildSlice _ _ _, _, _, _, _⟩ :: _) _ _; refine wpl (o := ⟨some 70, .buildSlice _ _ _, _, _, _, _⟩) rfl fun K hK => ?_; go_must (refine op_lit1 hs rfl Try.underlying54 info_u32 rfl (u32s [nx]) (by omega) rfl (u32s_one _) (by first | rfl | (simp [u32s, Act.eval, Act.put]; done) | (simp [u32s, Act.eval, Act.put]; rfl)) fun b70 w5 h => hK _ _ ?_); clear hs hK K; have hs := h; clear h; try dsimp only [List.set] at hs)
    | (guard_target = wpList _ _ _ (⟨some 71, .call _, _, _, _, _⟩ :: _) _ _; refine wpl (o := ⟨some 71, .call _, _, _, _, _⟩) rfl fun K hK => ?_; go_must (refine op_append (hs.pick (A := own (.slice A68 rl.length c68) 23 rl.length 1 (rcsN rl)) (by repeat (first | with_reducible exact Pick.here | with_reducible apply Pick.there))) rfl Try.underlying54 Try.underlying54 info_u32 rfl (by omega) (k := 0) rfl rfl rfl (Has.of (A := row b70 (u32s [nx]) 23) (by (try dsimp only [List.set]); repeat (first | with_reducible exact List.mem_cons_self | with_reducible apply List.mem_cons_of_mem)) fun F hF => own_sliceAt F (own_exact (n := 1) (sz := 1) rfl (by omega) F hF)) (u32s_one _) (by omega) (by omega) fun v71 w6 h => hK _ _ ?_); clear hs hK K; have hs := h; clear h; dsimp only [List.set] at hs
       obtain ⟨A71, c71, rfl, _, _⟩ := own_slice hs (i := 0) rfl)
    | (guard_target = wpList _ _ _ (⟨none, .store _ (.tmp 72) _, _, _, _, _⟩ :: _) _ _; refine wpl (o := ⟨none, .store _ (.tmp 72) _, _, _, _, _⟩) rfl fun K hK => ?_; go_must (refine op_store (hs.pick (A := row bm (mdCells b1 br (.slice A63 (rl.length + 1) c63) (.slice A3 rl.length c3) sy) 56) (by repeat (first | with_reducible exact Pick.here | with_reducible apply Pick.there))) rfl (b := bm) (i := 3) (v := .slice A71 (rl.length + 1) c71) rfl rfl rfl (by kernel_rfl) (k := 0) rfl (by simp [mdCells]) fun w7 h => hK _ _ ?_); clear hs hK K; have hs := h; clear h; change Sat W _ (row bm (mdCells b1 br (.slice A63 (rl.length + 1) c63) (.slice A71 (rl.length + 1) c71) sy) 56 :: _) at hs))
  refine ⟨⟨k + 1, .slice A63 (rl.length + 1) c63, .slice A71 (rl.length + 1) c71, by omega, by go_num, ?_⟩, by simp only [intOf]; omega⟩
  have h1 := (hs.pick (A := own (.slice A63 (rl.length + 1) c63) 9 (rl.length + 1) 1 (rcsS rl ++ strs [rec])) (by repeat (first | with_reducible exact Pick.here | with_reducible apply Pick.there))).sub (i := 0) rfl (B := sl1 (.slice A63 (rl.length + 1) c63) (rl.length + 1) (rcsS rl ++ strs [rec])) fun F hF => own_sliceAt F hF
  dsimp only [List.set] at h1
  have h2 := (h1.pick (A := own (.slice A71 (rl.length + 1) c71) 23 (rl.length + 1) 1 (rcsN rl ++ u32s [nx])) (by repeat (first | with_reducible exact Pick.here | with_reducible apply Pick.there))).sub (i := 0) rfl (B := sl1 (.slice A71 (rl.length + 1) c71) (rl.length + 1) (rcsN rl ++ u32s [nx])) fun F hF => own_sliceAt F hF
  dsimp only [List.set] at h2
  have e1 : rcsS (rl ++ [(rec, nx)]) = rcsS rl ++ strs [rec] := by simp [rcsS, strs]
  have e2 : rcsN (rl ++ [(rec, nx)]) = rcsN rl ++ u32s [nx] := by simp [rcsN, u32s]
  have e3 : (rl ++ [(rec, nx)]).length = rl.length + 1 := by simp
  rw [hnew.out]
  dsimp only
  rw [e1, e2, e3]
  exact h2.pack (by repeat (first | with_reducible exact Pack.refl | with_reducible exact Pack.nil | with_reducible refine Pack.cons (by repeat (first | with_reducible exact Pick.here | with_reducible apply Pick.there)) ?_ | with_reducible apply Pack.drop))
set_option maxRecDepth 100000 in
set_option maxHeartbeats 16000000 in
theorem scrun_spec_a_b_c_d_e_7 : scrun_spec_a_b_c_d_cut.p7 := by
  intro W w L hold l cap hl1 hl2 hl3 hinv hsmall hlen D0 hR0 hmay HD0 b2 x1_1 x1_2 b1 bm w1 x1_3 cS0 dc x1_4 x4_1 br w3 x1_5 x1_6 wr u5 u6 u14 u15 u16 u17 u18 u19 u20 u21 u22 u23 u24 u25 u26 u27 u28 u29 u30 u31 u32 u33 u34 u35 u36 u37 u38 u39 u40 u41 u42 u43 u44 u45 u46 u47 u48 u49 u50 u51 u52 u53 u54 u55 u56 u57 u58 u59 u60 u61 u62 u63 u64 u65 u66 u67 u68 u69 u70 u71 u72 u73 u74 u75 u76 u77 u78 u79 u80 u81 u82 u83 u84 u85 u86 k hk R rl sy HF HS hI ok hrow hcnt hsy A2 c2 x3_1 x3_2 A3 c3 x3_3 x3_4 hlt hltI bd od h Ab cb x3_5 rec n hc4 hb k20 hrg x3_6 HSS k29 R' nx HT hnew HC HR' x4_2 x4_3 x4_4 x5_1 x4_5 x4_6 cS d60 d61 b62 w5 b52 x5_2 w2 A55 c55 x5_3 x5_4 w6 A63 c63 x5_5 x5_6 w7 hs
  go_wp2_with (first
    | (guard_target = wpList _ _ _ (⟨some 65, .buildSlice _ _ _, _, _, _, _⟩ :: _) _ _; refine wpl (o := ⟨some 65, .buildSlice _ _ _, _, _, _, _⟩) rfl fun K hK => ?_; go_must (refine op_lit hs rfl Try.underlying54 info_u32 [] (by omega) (by simp [Instr.fill]) fun b65 w2 h => hK _ _ ?_); clear hs hK K; have hs := h; clear h; try dsimp only [List.set] at hs)
    | (guard_target = wpList _ _ _ (⟨some 67, .load _ _, _, _, _, _⟩ :: _) _ _; refine wpl (o := ⟨some 67, .load _ _, _, _, _, _⟩) rfl fun K hK => op_load rfl (ad := ⟨bm, 3, none⟩) rfl (by kernel_rfl) (hs.cell (l := (mdCells b1 br (.slice A63 (rl.length + 1) c63) (.slice A3 rl.length c3) sy)) (t := 56) (by (try dsimp only [List.set]); repeat (first | with_reducible exact List.mem_cons_self | with_reducible apply List.mem_cons_of_mem)) rfl) (hK _ _ ?_); clear hK K)
    | (guard_target = wpList _ _ _ (⟨some 68, .call _, _, _, _, _⟩ :: _) _ _; refine wpl (o := ⟨some 68, .call _, _, _, _, _⟩) rfl fun K hK => ?_; go_must (refine op_append_new hs rfl Try.underlying54 Try.underlying54 info_u32 rfl (by omega) rfl (slice_nil _ 1 (Has.mem m0 fun _ _ => trivial)) rfl (Has.mem (A := sl1 (.slice A3 rl.length c3) rl.length (rcsN rl)) (by (try dsimp only [List.set]); repeat (first | with_reducible exact List.mem_cons_self | with_reducible apply List.mem_cons_of_mem)) fun F h => h) (.inr rfl) (by omega) (by omega) fun v68 w2 h => hK _ _ ?_); clear hs hK K; have hs := h; clear h
       rw [Nat.zero_add, List.nil_append] at hs
       obtain ⟨A68, c68, rfl, _, _⟩ := own_slice hs (i := 0) rfl)
    | (guard_target = wpList _ _ _ (⟨some 70, .buildSlice _ _ _, _, _, _, _⟩ :: _) _ _; refine wpl (o := ⟨some 70, .buildSlice _ _ _, _, _, _, _⟩) rfl fun K hK => ?_; go_must (refine op_lit1 hs rfl Try.underlying54 info_u32 rfl (u32s [nx]) (by omega) rfl (u32s_one _) (by first | rfl | (simp [u32s, Act.eval, Act.put]; done) | (simp [u32s, Act.eval, Act.put]; rfl)) fun b70 w5 h => hK _ _ ?_); clear hs hK K; have hs := h; clear h; try dsimp only [List.set] at hs)
    | (guard_target = wpList _ _ _ (⟨some 71, .call _, _, _, _, _⟩ :: _) _ _; refine wpl (o := ⟨some 71, .call _, _, _, _, _⟩) rfl fun K hK => ?_; go_must (refine op_append (hs.pick (A := own (.slice A68 rl.length c68) 23 rl.length 1 (rcsN rl)) (by repeat (first | with_reducible exact Pick.here | with_reducible apply Pick.there))) rfl Try.underlying54 Try.underlying54 info_u32 rfl (by omega) (k := 0) rfl rfl rfl (Has.of (A := row b70 (u32s [nx]) 23) (by (try dsimp only [List.set]); repeat (first | with_reducible exact List.mem_cons_self | with_reducible apply List.mem_cons_of_mem)) fun F hF => own_sliceAt F (own_exact (n := 1) (sz := 1) rfl (by omega) F hF)) (u32s_one _) (by omega) (by omega) fun v71 w6 h => hK _ _ ?_); clear hs hK K; have hs := h; clear h; dsimp only [List.set] at hs
       obtain ⟨A71, c71, rfl, _, _⟩ := own_slice hs (i := 0) rfl)
    | (guard_target = wpList _ _ _ (⟨none, .store _ (.tmp 72) _, _, _, _, _⟩ :: _) _ _; refine wpl (o := ⟨none, .store _ (.tmp 72) _, _, _, _, _⟩) rfl fun K hK => ?_; go_must (refine op_store (hs.pick (A := row bm (mdCells b1 br (.slice A63 (rl.length + 1) c63) (.slice A3 rl.length c3) sy) 56) (by repeat (first | with_reducible exact Pick.here | with_reducible apply Pick.there))) rfl (b := bm) (i := 3) (v := .slice A71 (rl.length + 1) c71) rfl rfl rfl (by kernel_rfl) (k := 0) rfl (by simp [mdCells]) fun w7 h => hK _ _ ?_); clear hs hK K; have hs := h; clear h; change Sat W _ (row bm (mdCells b1 br (.slice A63 (rl.length + 1) c63) (.slice A71 (rl.length + 1) c71) sy) 56 :: _) at hs))
  refine ⟨⟨k + 1, .slice A63 (rl.length + 1) c63, .slice A71 (rl.length + 1) c71, by omega, by go_num, ?_⟩, by simp only [intOf]; omega⟩
  have h1 := (hs.pick (A := own (.slice A63 (rl.length + 1) c63) 9 (rl.length + 1) 1 (rcsS rl ++ strs [rec])) (by repeat (first | with_reducible exact Pick.here | with_reducible apply Pick.there))).sub (i := 0) rfl (B := sl1 (.slice A63 (rl.length + 1) c63) (rl.length + 1) (rcsS rl ++ strs [rec])) fun F hF => own_sliceAt F hF
  dsimp only [List.set] at h1
  have h2 := (h1.pick (A := own (.slice A71 (rl.length + 1) c71) 23 (rl.length + 1) 1 (rcsN rl ++ u32s [nx])) (by repeat (first | with_reducible exact Pick.here | with_reducible apply Pick.there))).sub (i := 0) rfl (B := sl1 (.slice A71 (rl.length + 1) c71) (rl.length + 1) (rcsN rl ++ u32s [nx])) fun F hF => own_sliceAt F hF
  dsimp only [List.set] at h2
  have e1 : rcsS (rl ++ [(rec, nx)]) = rcsS rl ++ strs [rec] := by simp [rcsS, strs]
  have e2 : rcsN (rl ++ [(rec, nx)]) = rcsN rl ++ u32s [nx] := by simp [rcsN, u32s]
  have e3 : (rl ++ [(rec, nx)]).length = rl.length + 1 := by simp
  rw [hnew.out]
  dsimp only
  rw [e1, e2, e3]
  exact h2.pack (by repeat (first | with_reducible exact Pack.refl | with_reducible exact Pack.nil | with_reducible refine Pack.cons (by repeat (first | with_reducible exact Pick.here | with_reducible apply Pick.there)) ?_ | with_reducible apply Pack.drop))
set_option maxRecDepth 100000 in
set_option maxHeartbeats 16000000 in
theorem scrun_spec_a_b_c_d_e_8 : scrun_spec_a_b_c_d_cut.p8 := by
  intro W w L hold l cap hl1 hl2 hl3 hinv hsmall hlen D0 hR0 hmay HD0 b2 x1_1 x1_2 b1 bm w1 x1_3 cS0 dc x1_4 x4_1 br w3 x1_5 x1_6 wr u5 u6 u14 u15 u16 u17 u18 u19 u20 u21 u22 u23 u24 u25 u26 u27 u28 u29 u30 u31 u32 u33 u34 u35 u36 u37 u38 u39 u40 u41 u42 u43 u44 u45 u46 u47 u48 u49 u50 u51 u52 u53 u54 u55 u56 u57 u58 u59 u60 u61 u62 u63 u64 u65 u66 u67 u68 u69 u70 u71 u72 u73 u74 u75 u76 u77 u78 u79 u80 u81 u82 u83 u84 u85 u86 k hk R rl sy HF HS hI ok hrow hcnt hsy A2 c2 x3_1 x3_2 A3 c3 x3_3 x3_4 hlt hltI bd od h Ab cb x3_5 rec n hc4 hb k20 hrg x3_6 HSS k29 R' nx HT hnew HC HR' x4_2 x4_3 x4_4 x5_1 x4_5 x4_6 cS d60 d61 b62 w5 b52 x5_2 w2 A55 c55 x5_3 x5_4 w6 A63 c63 x5_5 x5_6 w7 hs
  go_wp2_with (first
    | (guard_target = wpList _ _ _ (⟨some 65, .buildSlice _ _ _, _, _, _, _⟩ :: _) _ _; refine wpl (o := ⟨some 65, .buildSlice _ _ _, _, _, _, _⟩) rfl fun K hK => ?_; go_must (refine op_lit hs rfl Try.underlying54 info_u32 [] (by omega) (by simp [Instr.fill]) fun b65 w2 h => hK _ _ ?_); clear hs hK K; have hs := h; clear h; try dsimp only [List.set] at hs)
    | (guard_target = wpList _ _ _ (⟨some 67, .load _ _, _, _, _, _⟩ :: _) _ _; refine wpl (o := ⟨some 67, .load _ _, _, _, _, _⟩) rfl fun K hK => op_load rfl (ad := ⟨bm, 3, none⟩) rfl (by kernel_rfl) (hs.cell (l := (mdCells b1 br (.slice A63 (rl.length + 1) c63) (.slice A3 rl.length c3) sy)) (t := 56) (by (try dsimp only [List.set]); repeat (first | with_reducible exact List.mem_cons_self | with_reducible apply List.mem_cons_of_mem)) rfl) (hK _ _ ?_); clear hK K)
    | (guard_target = wpList _ _ _ (⟨some 68, .call _, _, _, _, _⟩ :: _) _ _; refine wpl (o := ⟨some 68, .call _, _, _, _, _⟩) rfl fun K hK => ?_; go_must (refine op_append_new hs rfl Try.underlying54 Try.underlying54 info_u32 rfl (by omega) rfl (slice_nil _ 1 (Has.mem m0 fun _ _ => trivial)) rfl (Has.mem (A := sl1 (.slice A3 rl.length c3) rl.length (rcsN rl)) (by (try dsimp only [List.set]); repeat (first | with_reducible exact List.mem_cons_self | with_reducible apply List.mem_cons_of_mem)) fun F h => h) (.inr rfl) (by omega) (by omega) fun v68 w2 h => hK _ _ ?_); clear hs hK K; have hs := h; clear h
       rw [Nat.zero_add, List.nil_append] at hs
       obtain ⟨A68, c68, rfl, _, _⟩ := own_slice hs (i := 0) rfl)
    | (guard_target = wpList _ _ _ (⟨some 70, .buildSlice _ _ _, _, _, _, _⟩ :: _) _ _; refine wpl (o := ⟨some 70, .buildSlice _ _ _, _, _, _, _⟩) rfl fun K hK => ?_; go_must (refine op_lit1 hs rfl Try.underlying54 info_u32 rfl (u32s [nx]) (by omega) rfl (u32s_one _) (by first | rfl | (simp [u32s, Act.eval, Act.put]; done) | (simp [u32s, Act.eval, Act.put]; rfl)) fun b70 w5 h => hK _ _ ?_); clear hs hK K; have hs := h; clear h; try dsimp only [List.set] at hs)
    | (guard_target = wpList _ _ _ (⟨some 71, .call _, _, _, _, _⟩ :: _) _ _; refine wpl (o := ⟨some 71, .call _, _, _, _, _⟩) rfl fun K hK => ?_; go_must (refine op_append (hs.pick (A := own (.slice A68 rl.length c68) 23 rl.length 1 (rcsN rl)) (by repeat (first | with_reducible exact Pick.here | with_reducible apply Pick.there))) rfl Try.underlying54 Try.underlying54 info_u32 rfl (by omega) (k := 0) rfl rfl rfl (Has.of (A := row b70 (u32s [nx]) 23) (by (try dsimp only [List.set]); repeat (first | with_reducible exact List.mem_cons_self | with_reducible apply List.mem_cons_of_mem)) fun F hF => own_sliceAt F (own_exact (n := 1) (sz := 1) rfl (by omega) F hF)) (u32s_one _) (by omega) (by omega) fun v71 w6 h => hK _ _ ?_); clear hs hK K; have hs := h; clear h; dsimp only [List.set] at hs
       obtain ⟨A71, c71, rfl, _, _⟩ := own_slice hs (i := 0) rfl)
    | (guard_target = wpList _ _ _ (⟨none, .store _ (.tmp 72) _, _, _, _, _⟩ :: _) _ _; refine wpl (o := ⟨none, .store _ (.tmp 72) _, _, _, _, _⟩) rfl fun K hK => ?_; go_must (refine op_store (hs.pick (A := row bm (mdCells b1 br (.slice A63 (rl.length + 1) c63) (.slice A3 rl.length c3) sy) 56) (by repeat (first | with_reducible exact Pick.here | with_reducible apply Pick.there))) rfl (b := bm) (i := 3) (v := .slice A71 (rl.length + 1) c71) rfl rfl rfl (by kernel_rfl) (k := 0) rfl (by simp [mdCells]) fun w7 h => hK _ _ ?_); clear hs hK K; have hs := h; clear h; change Sat W _ (row bm (mdCells b1 br (.slice A63 (rl.length + 1) c63) (.slice A71 (rl.length + 1) c71) sy) 56 :: _) at hs))
  refine ⟨⟨k + 1, .slice A63 (rl.length + 1) c63, .slice A71 (rl.length + 1) c71, by omega, by go_num, ?_⟩, by simp only [intOf]; omega⟩
  have h1 := (hs.pick (A := own (.slice A63 (rl.length + 1) c63) 9 (rl.length + 1) 1 (rcsS rl ++ strs [rec])) (by repeat (first | with_reducible exact Pick.here | with_reducible apply Pick.there))).sub (i := 0) rfl (B := sl1 (.slice A63 (rl.length + 1) c63) (rl.length + 1) (rcsS rl ++ strs [rec])) fun F hF => own_sliceAt F hF
  dsimp only [List.set] at h1
  have h2 := (h1.pick (A := own (.slice A71 (rl.length + 1) c71) 23 (rl.length + 1) 1 (rcsN rl ++ u32s [nx])) (by repeat (first | with_reducible exact Pick.here | with_reducible apply Pick.there))).sub (i := 0) rfl (B := sl1 (.slice A71 (rl.length + 1) c71) (rl.length + 1) (rcsN rl ++ u32s [nx])) fun F hF => own_sliceAt F hF
  dsimp only [List.set] at h2
  have e1 : rcsS (rl ++ [(rec, nx)]) = rcsS rl ++ strs [rec] := by simp [rcsS, strs]
  have e2 : rcsN (rl ++ [(rec, nx)]) = rcsN rl ++ u32s [nx] := by simp [rcsN, u32s]
  have e3 : (rl ++ [(rec, nx)]).length = rl.length + 1 := by simp
  rw [hnew.out]
  dsimp only
  rw [e1, e2, e3]
  exact h2.pack (by repeat (first | with_reducible exact Pack.refl | with_reducible exact Pack.nil | with_reducible refine Pack.cons (by repeat (first | with_reducible exact Pick.here | with_reducible apply Pick.there)) ?_ | with_reducible apply Pack.drop))
theorem scrun_spec_a_b_c_d : scrun_spec_a_b_c_cut.p1 :=
  scrun_spec_a_b_c_d_cut.go ⟨scrun_spec_a_b_c_d_e⟩ ⟨scrun_spec_a_b_c_d_e_2⟩ ⟨scrun_spec_a_b_c_d_e_3⟩ ⟨scrun_spec_a_b_c_d_e_4⟩ ⟨scrun_spec_a_b_c_d_e_5⟩ ⟨scrun_spec_a_b_c_d_e_6⟩ ⟨scrun_spec_a_b_c_d_e_7⟩ ⟨scrun_spec_a_b_c_d_e_8⟩
theorem scrun_spec_a_b_c : scrun_spec_a_b_cut.p1 :=
  scrun_spec_a_b_c_cut.go ⟨scrun_spec_a_b_c_d⟩
set_option maxRecDepth 100000 in
set_option maxHeartbeats 16000000 in
theorem scrun_spec_a_b_f : scrun_spec_a_b_cut.p2 := by
  intro W w L hold l cap hl1 hl2 hl3 hinv hsmall hlen D0 hR0 hmay HD0 b2 x1_1 x1_2 b1 bm w1 x1_3 cS0 dc x1_4 w5 br w3 x1_5 x1_6 wr u5 u6 u14 u15 u16 u17 u18 u19 u20 u21 u22 u23 u24 u25 u26 u27 u28 u29 u30 u31 u32 u33 u34 u35 u36 u37 u38 u39 u40 u41 u42 u43 u44 u45 u46 u47 u48 u49 u50 u51 u52 u53 u54 u55 u56 u57 u58 u59 u60 u61 u62 u63 u64 u65 u66 u67 u68 u69 u70 u71 u72 u73 u74 u75 u76 u77 u78 u79 u80 u81 u82 u83 u84 u85 u86 k hk R rl sy HF HS hI ok hrow hcnt hsy A2 c2 x3_1 x3_2 A3 c3 hs x3_3 x3_4 hlt hltI bd od h Ab cb x3_5 rec n hc4 hb k20 hrg x3_6 HSS k29 R' hR' cd0 hcd h0 hneI
  have hno : R = R' := by rw [← hR']; exact (hI.out.appendNo rec (fun e => h0 (hcd.symm.trans e))).symm
  obtain ⟨nx, hnx⟩ : ∃ x, R.told rec = x := ⟨_, rfl⟩
  have HT := Box.mk hnx
  have hnew : Box (mdRun (l.take (k + 1)) = ⟨R, rl, sy⟩) := ⟨by rw [HSS.out]; unfold mdStep; simp [hcd, h0]⟩
  have HC := Box.mk hcd
  subst hno
  have HR' := Box.mk hR'
  clear hcd hR' hnx
  go_wp2_with (first
    | (guard_target = wpList _ _ _ (⟨some 20, .load _ _, _, _, _, _⟩ :: _) _ _; refine wpl (o := ⟨some 20, .load _ _, _, _, _, _⟩) rfl fun K hK => op_load rfl (ad := ⟨bm, 1, none⟩) rfl (by kernel_rfl) k20 (hK _ _ ?_); clear hK K)
    | (guard_target = wpList _ _ _ (⟨some 29, .load _ _, _, _, _, _⟩ :: _) _ _; refine wpl (o := ⟨some 29, .load _ _, _, _, _, _⟩) rfl fun K hK => op_load rfl (ad := ⟨bd, od + k * 3, none⟩) rfl (by kernel_rfl) k29 (hK _ _ ?_); clear hK K))
  have cS : ∀ w M, Sat W w M → row bm (mdCells b1 br (.slice A2 rl.length c2) (.slice A3 rl.length c3) sy) 56 ∈ M → old W ∈ M → rnS bm (mdCells b1 br (.slice A2 rl.length c2) (.slice A3 rl.length c3) sy) bd (od + k * 3) (rdCells ⟨1, rec, n⟩ (.slice Ab rec.length cb)) w := fun w M h hm ho => ⟨range_whole h hm, rold_range h ho hrg (by simp [rdCells])⟩
  have d41 : ∀ w, rnS bm (mdCells b1 br (.slice A2 rl.length c2) (.slice A3 rl.length c3) sy) bd (od + k * 3) (rdCells ⟨1, rec, n⟩ (.slice Ab rec.length cb)) w → w.cell? ⟨bm, 1, none⟩ = some (.pointer (some ⟨br, 0, none⟩)) := fun w h => h.1 1 _ rfl
  have d46 : ∀ w, rnS bm (mdCells b1 br (.slice A2 rl.length c2) (.slice A3 rl.length c3) sy) bd (od + k * 3) (rdCells ⟨1, rec, n⟩ (.slice Ab rec.length cb)) w → w.cell? ⟨bd, od + k * 3 + 1, none⟩ = some (.slice Ab rec.length cb) := fun w h => h.2 1 _ rfl
  have hS0 := cS _ _ hs.drew (by (try dsimp only [List.set]); repeat (first | with_reducible exact List.mem_cons_self | with_reducible apply List.mem_cons_of_mem)) (by (try dsimp only [List.set]); repeat (first | exact hold | apply List.mem_cons_of_mem))
  refine wp_region_tree (rnS bm (mdCells b1 br (.slice A2 rl.length c2) (.slice A3 rl.length c3) sy) bd (od + k * 3) (rdCells ⟨1, rec, n⟩ (.slice Ab rec.length cb))) (.take 0 (.take 1 (.take 2 (.take 3 (.take 4 (.take 5 (.take 6 (.all [(7, .take 8 (.take 9 (.take 10 (.take 11 (.take 12 (DTree.done))))))])))))))) (by kernel_rfl) (by kernel_rfl) (by kernel_rfl) (fun _ _ d _ _ h => by cases d <;> exact h) hS0 ?_
  have hs' := hs.drew
  clear hs
  have hs := hs'
  clear hs'
  have hq := fun p : Prop => class_const hS0 p
  clear hS0
  repeat (first
    | (with_reducible refine tree_load (o := ⟨some 41, .load _ _, _, _, _, _⟩) rfl rfl rfl rfl rfl d41 ?_)
    | (with_reducible refine tree_load (o := ⟨some 46, .load _ _, _, _, _, _⟩) rfl rfl rfl rfl rfl d46 ?_)
    | (refine tree_take rfl (fun K hK => ?_); go_simp; (first | with_reducible refine hK _ ?_ | (rw [if_neg (by decide)]; with_reducible refine hK _ ?_)); clear hK K))
  refine tree_one_yes (o := _) rfl rfl (fun K hK => ?_) (cS _ _ hs (by (try dsimp only [List.set]); repeat (first | with_reducible exact List.mem_cons_self | with_reducible apply List.mem_cons_of_mem)) (by (try dsimp only [List.set]); repeat (first | exact hold | apply List.mem_cons_of_mem)))
  try go_simp
  go_at_call 30
  refine (append_spec W _ _ br b1 R ok ((hs.pick (A := rg br b1 R) (by repeat (first | with_reducible exact Pick.here | with_reducible apply Pick.there))).pick (A := disk b1 R.D) (by repeat (first | with_reducible exact Pick.here | with_reducible apply Pick.there))) _ rec (has_w (by (try dsimp only [List.set]); repeat (first | exact hold | apply List.mem_cons_of_mem)) hb) (by omega) (by omega)).mono ?_
  clear hs
  rintro e w5 ⟨rfl, hs⟩
  rw [HT.out, HC.out]
  rw [HR'.out] at hs
  try go_simp
  refine hK _ _ (cS _ _ hs (by (try dsimp only [List.set]); repeat (first | with_reducible exact List.mem_cons_self | with_reducible apply List.mem_cons_of_mem)) (by (try dsimp only [List.set]); repeat (first | exact hold | apply List.mem_cons_of_mem))) ?_
  clear hK K
  repeat (first
    | (with_reducible refine tree_load (o := ⟨some 41, .load _ _, _, _, _, _⟩) rfl rfl rfl rfl rfl d41 ?_)
    | (with_reducible refine tree_load (o := ⟨some 46, .load _ _, _, _, _, _⟩) rfl rfl rfl rfl rfl d46 ?_)
    | (refine tree_take rfl (fun K hK => ?_); go_simp; (first | with_reducible refine hK _ ?_ | (rw [if_neg (by decide)]; with_reducible refine hK _ ?_)); clear hK K))
  refine tree_done ?_
  clear hq
  go_wp2_with fail
  refine ⟨⟨k + 1, .slice A2 rl.length c2, .slice A3 rl.length c3, by omega, by go_num, ?_⟩, by simp only [intOf]; omega⟩
  rw [hnew.out]
  exact hs.pack (by repeat (first | with_reducible exact Pack.refl | with_reducible exact Pack.nil | with_reducible refine Pack.cons (by repeat (first | with_reducible exact Pick.here | with_reducible apply Pick.there)) ?_ | with_reducible apply Pack.drop))
set_option maxRecDepth 100000 in
set_option maxHeartbeats 16000000 in
theorem scrun_spec_a_b_g : scrun_spec_a_b_cut.p3 := by
  intro W w L hold l cap hl1 hl2 hl3 hinv hsmall hlen D0 hR0 hmay HD0 b2 x1_1 x1_2 b1 bm w1 x1_3 cS0 dc x1_4 w5 br w3 x1_5 x1_6 wr u5 u6 u14 u15 u16 u17 u18 u19 u20 u21 u22 u23 u24 u25 u26 u27 u28 u29 u30 u31 u32 u33 u34 u35 u36 u37 u38 u39 u40 u41 u42 u43 u44 u45 u46 u47 u48 u49 u50 u51 u52 u53 u54 u55 u56 u57 u58 u59 u60 u61 u62 u63 u64 u65 u66 u67 u68 u69 u70 u71 u72 u73 u74 u75 u76 u77 u78 u79 u80 u81 u82 u83 u84 u85 u86 k hk R rl sy HF HS hI ok hrow hcnt hsy A2 c2 x3_1 x3_2 A3 c3 hs x3_3 x3_4 hlt hltI bd od h Ab cb x3_5 rec n hc4 hb k20 hrg x3_6 HSS k29 h1 hn8 hwn hmn hmnI
  have hnew : Box (mdRun (l.take (k + 1)) = ⟨R.cut (endAt R.low rl rl.length), rl.drop rl.length, sy - rl.length⟩) := ⟨by rw [HSS.out]; unfold mdStep; simp [show min n.toNat rl.length = rl.length by omega]⟩
  obtain ⟨rl', hrl'⟩ : ∃ x, rl.drop rl.length = x := ⟨_, rfl⟩
  obtain ⟨sy', hsy'⟩ : ∃ x, sy - rl.length = x := ⟨_, rfl⟩
  obtain ⟨R', hR'⟩ : ∃ x, R.cut (endAt R.low rl rl.length) = x := ⟨_, rfl⟩
  have hDD : Box (R'.D = R.D) := ⟨by rw [← hR']; simp⟩
  have HX := Box.mk (And.intro hrl' (And.intro hsy' hR'))
  rw [hrl', hsy', hR'] at hnew
  clear hrl' hsy' hR'
  go_wp2_with (first
    | (guard_target = wpList _ _ _ (⟨some 20, .load _ _, _, _, _, _⟩ :: _) _ _; refine wpl (o := ⟨some 20, .load _ _, _, _, _, _⟩) rfl fun K hK => op_load rfl (ad := ⟨bm, 1, none⟩) rfl (by kernel_rfl) k20 (hK _ _ ?_); clear hK K)
    | (guard_target = wpList _ _ _ (⟨some 29, .load _ _, _, _, _, _⟩ :: _) _ _; refine wpl (o := ⟨some 29, .load _ _, _, _, _, _⟩) rfl fun K hK => op_load rfl (ad := ⟨bd, od + k * 3, none⟩) rfl (by kernel_rfl) k29 (hK _ _ ?_); clear hK K))
  have cS : ∀ w M, Sat W w M → old W ∈ M → r15S bd (od + k * 3) (rdCells ⟨2, rec, n⟩ (.slice Ab rec.length cb)) w := fun w M h ho => rold_range h ho hrg (by simp [rdCells])
  have d80 : ∀ w, r15S bd (od + k * 3) (rdCells ⟨2, rec, n⟩ (.slice Ab rec.length cb)) w → w.cell? ⟨bd, od + k * 3 + 2, none⟩ = some (.int .u8 (n.toNat : Int)) := fun w h => h 2 _ rfl
  have hS0 := cS _ _ hs.drew (by (try dsimp only [List.set]); repeat (first | exact hold | apply List.mem_cons_of_mem))
  refine wp_region_tree (r15S bd (od + k * 3) (rdCells ⟨2, rec, n⟩ (.slice Ab rec.length cb))) (.take 1 (.take 2 (.take 3 (.take 4 (.take 5 (.take 6 (.take 7 (.all [(0, .all [(8, .take 9 (.take 10 (.all [(11, .all [(12, DTree.done)])])))]), (8, .take 9 (.take 10 (.all [(0, .all [(11, .all [(12, DTree.done)])])])))])))))))) (by kernel_rfl) (by kernel_rfl) (by kernel_rfl) (fun _ _ d _ _ h => by cases d <;> exact h) hS0 ?_
  have hs' := hs.drew
  clear hs
  have hs := hs'
  clear hs'
  have hq := fun p : Prop => class_const hS0 p
  clear hS0
  repeat (first
    | (with_reducible refine tree_load (o := ⟨some 80, .load _ _, _, _, _, _⟩) rfl rfl rfl rfl rfl d80 ?_)
    | (refine tree_take rfl (fun K hK => ?_); go_simp; (first | with_reducible refine hK _ ?_ | (rw [if_neg (by decide)]; with_reducible refine hK _ ?_)); clear hK K))
  refine tree_all (trees_cons_yes (o := _) rfl rfl (fun K hK => ?_) (cS _ _ hs (by (try dsimp only [List.set]); repeat (first | exact hold | apply List.mem_cons_of_mem))) (trees_cons_yes (o := _) rfl rfl (fun K hK => ?_) (cS _ _ hs (by (try dsimp only [List.set]); repeat (first | exact hold | apply List.mem_cons_of_mem))) trees_nil))
  · refine op_load_agg rfl (b := bm) (i := 0) rfl (mdCells b1 br (.slice A2 rl.length c2) (.slice A3 rl.length c3) sy) (range_whole hs (by (try dsimp only [List.set]); repeat (first | with_reducible exact List.mem_cons_self | with_reducible apply List.mem_cons_of_mem))) (by kernel_rfl) (by kernel_rfl) (hK _ _ (cS _ _ hs (by (try dsimp only [List.set]); repeat (first | exact hold | apply List.mem_cons_of_mem))) ?_)
    clear hK K
    try go_simp
    refine tree_one_yes (o := _) rfl rfl (fun K hK => ?_) (cS _ _ hs (by (try dsimp only [List.set]); repeat (first | exact hold | apply List.mem_cons_of_mem)))
    refine op_load rfl (ad := ⟨bm, 2, none⟩) rfl (by kernel_rfl) (hs.cell (l := (mdCells b1 br (.slice A2 rl.length c2) (.slice A3 rl.length c3) sy)) (t := 56) (by (try dsimp only [List.set]); repeat (first | with_reducible exact List.mem_cons_self | with_reducible apply List.mem_cons_of_mem)) rfl) (hK _ _ (cS _ _ hs (by (try dsimp only [List.set]); repeat (first | exact hold | apply List.mem_cons_of_mem))) ?_)
    clear hK K
    try go_simp
    repeat (first
      | (with_reducible refine tree_load (o := ⟨some 80, .load _ _, _, _, _, _⟩) rfl rfl rfl rfl rfl d80 ?_)
      | (refine tree_take rfl (fun K hK => ?_); go_simp; (first | with_reducible refine hK _ ?_ | (rw [if_neg (by decide)]; with_reducible refine hK _ ?_)); clear hK K))
    refine tree_one_yes (o := _) rfl rfl (fun K hK => ?_) (cS _ _ hs (by (try dsimp only [List.set]); repeat (first | exact hold | apply List.mem_cons_of_mem)))
    try go_simp
    go_at_call 53
    refine (sccut_spec W _ _ b1 br R rl sy rl.length (.slice A2 rl.length c2) (.slice A3 rl.length c3) (((hs.pick (A := rg br b1 R) (by repeat (first | with_reducible exact Pick.here | with_reducible apply Pick.there))).pick (A := sl1 (.slice A3 rl.length c3) rl.length (rcsN rl)) (by repeat (first | with_reducible exact Pick.here | with_reducible apply Pick.there))).pick (A := sl1 (.slice A2 rl.length c2) rl.length (rcsS rl)) (by repeat (first | with_reducible exact Pick.here | with_reducible apply Pick.there))) (by omega) (by omega) (by omega)).mono ?_
    clear hs
    rintro e w5 ⟨v2', v3', rfl, hs⟩
    rw [HX.out.1, HX.out.2.2] at hs
    rw [HX.out.2.1]
    obtain ⟨A2', c2', rfl, _, _⟩ := slice_form (hs.slice (Has.mem m0 fun F h => h))
    obtain ⟨A3', c3', rfl, _, _⟩ := slice_form (hs.slice (Has.mem m1 fun F h => h))
    try go_simp
    refine hK _ _ (cS _ _ hs (by (try dsimp only [List.set]); repeat (first | exact hold | apply List.mem_cons_of_mem))) ?_
    clear hK K
    refine tree_one_yes (o := _) rfl rfl (fun K hK => ?_) (cS _ _ hs (by (try dsimp only [List.set]); repeat (first | exact hold | apply List.mem_cons_of_mem)))
    refine op_store_whole (hs.pick (A := row bm (mdCells b1 br (.slice A2 rl.length c2) (.slice A3 rl.length c3) sy) 56) (by repeat (first | with_reducible exact Pick.here | with_reducible apply Pick.there))) rfl (b := bm) rfl (mdCells b1 br (.slice A2' rl'.length c2') (.slice A3' rl'.length c3') sy') rfl (md_one _ _ _ _ _ _ _ _ _) (by kernel_rfl) (k := 0) rfl rfl fun w3 h => hK _ _ (cS _ _ h (by (try dsimp only [List.set]); repeat (first | exact hold | apply List.mem_cons_of_mem))) ?_
    clear hs hK K
    have hs := h
    clear h
    try dsimp only [List.set] at hs
    try go_simp
    refine tree_done ?_
    clear hq
    go_wp2_with fail
    refine ⟨⟨k + 1, .slice A2' rl'.length c2', .slice A3' rl'.length c3', by omega, by go_num, ?_⟩, by simp only [intOf]; omega⟩
    rw [hnew.out]
    dsimp only
    rw [hDD.out]
    exact hs.pack (by repeat (first | with_reducible exact Pack.refl | with_reducible exact Pack.nil | with_reducible refine Pack.cons (by repeat (first | with_reducible exact Pick.here | with_reducible apply Pick.there)) ?_ | with_reducible apply Pack.drop))
  · refine op_load rfl (ad := ⟨bm, 2, none⟩) rfl (by kernel_rfl) (hs.cell (l := (mdCells b1 br (.slice A2 rl.length c2) (.slice A3 rl.length c3) sy)) (t := 56) (by (try dsimp only [List.set]); repeat (first | with_reducible exact List.mem_cons_self | with_reducible apply List.mem_cons_of_mem)) rfl) (hK _ _ (cS _ _ hs (by (try dsimp only [List.set]); repeat (first | exact hold | apply List.mem_cons_of_mem))) ?_)
    clear hK K
    try go_simp
    repeat (first
      | (with_reducible refine tree_load (o := ⟨some 80, .load _ _, _, _, _, _⟩) rfl rfl rfl rfl rfl d80 ?_)
      | (refine tree_take rfl (fun K hK => ?_); go_simp; (first | with_reducible refine hK _ ?_ | (rw [if_neg (by decide)]; with_reducible refine hK _ ?_)); clear hK K))
    refine tree_one_yes (o := _) rfl rfl (fun K hK => ?_) (cS _ _ hs (by (try dsimp only [List.set]); repeat (first | exact hold | apply List.mem_cons_of_mem)))
    refine op_load_agg rfl (b := bm) (i := 0) rfl (mdCells b1 br (.slice A2 rl.length c2) (.slice A3 rl.length c3) sy) (range_whole hs (by (try dsimp only [List.set]); repeat (first | with_reducible exact List.mem_cons_self | with_reducible apply List.mem_cons_of_mem))) (by kernel_rfl) (by kernel_rfl) (hK _ _ (cS _ _ hs (by (try dsimp only [List.set]); repeat (first | exact hold | apply List.mem_cons_of_mem))) ?_)
    clear hK K
    try go_simp
    refine tree_one_yes (o := _) rfl rfl (fun K hK => ?_) (cS _ _ hs (by (try dsimp only [List.set]); repeat (first | exact hold | apply List.mem_cons_of_mem)))
    try go_simp
    go_at_call 53
    refine (sccut_spec W _ _ b1 br R rl sy rl.length (.slice A2 rl.length c2) (.slice A3 rl.length c3) (((hs.pick (A := rg br b1 R) (by repeat (first | with_reducible exact Pick.here | with_reducible apply Pick.there))).pick (A := sl1 (.slice A3 rl.length c3) rl.length (rcsN rl)) (by repeat (first | with_reducible exact Pick.here | with_reducible apply Pick.there))).pick (A := sl1 (.slice A2 rl.length c2) rl.length (rcsS rl)) (by repeat (first | with_reducible exact Pick.here | with_reducible apply Pick.there))) (by omega) (by omega) (by omega)).mono ?_
    clear hs
    rintro e w5 ⟨v2', v3', rfl, hs⟩
    rw [HX.out.1, HX.out.2.2] at hs
    rw [HX.out.2.1]
    obtain ⟨A2', c2', rfl, _, _⟩ := slice_form (hs.slice (Has.mem m0 fun F h => h))
    obtain ⟨A3', c3', rfl, _, _⟩ := slice_form (hs.slice (Has.mem m1 fun F h => h))
    try go_simp
    refine hK _ _ (cS _ _ hs (by (try dsimp only [List.set]); repeat (first | exact hold | apply List.mem_cons_of_mem))) ?_
    clear hK K
    refine tree_one_yes (o := _) rfl rfl (fun K hK => ?_) (cS _ _ hs (by (try dsimp only [List.set]); repeat (first | exact hold | apply List.mem_cons_of_mem)))
    refine op_store_whole (hs.pick (A := row bm (mdCells b1 br (.slice A2 rl.length c2) (.slice A3 rl.length c3) sy) 56) (by repeat (first | with_reducible exact Pick.here | with_reducible apply Pick.there))) rfl (b := bm) rfl (mdCells b1 br (.slice A2' rl'.length c2') (.slice A3' rl'.length c3') sy') rfl (md_one _ _ _ _ _ _ _ _ _) (by kernel_rfl) (k := 0) rfl rfl fun w3 h => hK _ _ (cS _ _ h (by (try dsimp only [List.set]); repeat (first | exact hold | apply List.mem_cons_of_mem))) ?_
    clear hs hK K
    have hs := h
    clear h
    try dsimp only [List.set] at hs
    try go_simp
    refine tree_done ?_
    clear hq
    go_wp2_with fail
    refine ⟨⟨k + 1, .slice A2' rl'.length c2', .slice A3' rl'.length c3', by omega, by go_num, ?_⟩, by simp only [intOf]; omega⟩
    rw [hnew.out]
    dsimp only
    rw [hDD.out]
    exact hs.pack (by repeat (first | with_reducible exact Pack.refl | with_reducible exact Pack.nil | with_reducible refine Pack.cons (by repeat (first | with_reducible exact Pick.here | with_reducible apply Pick.there)) ?_ | with_reducible apply Pack.drop))
set_option maxRecDepth 100000 in
set_option maxHeartbeats 16000000 in
theorem scrun_spec_a_b_h : scrun_spec_a_b_cut.p4 := by
  intro W w L hold l cap hl1 hl2 hl3 hinv hsmall hlen D0 hR0 hmay HD0 b2 x1_1 x1_2 b1 bm w1 x1_3 cS0 dc x1_4 w5 br w3 x1_5 x1_6 wr u5 u6 u14 u15 u16 u17 u18 u19 u20 u21 u22 u23 u24 u25 u26 u27 u28 u29 u30 u31 u32 u33 u34 u35 u36 u37 u38 u39 u40 u41 u42 u43 u44 u45 u46 u47 u48 u49 u50 u51 u52 u53 u54 u55 u56 u57 u58 u59 u60 u61 u62 u63 u64 u65 u66 u67 u68 u69 u70 u71 u72 u73 u74 u75 u76 u77 u78 u79 u80 u81 u82 u83 u84 u85 u86 k hk R rl sy HF HS hI ok hrow hcnt hsy A2 c2 x3_1 x3_2 A3 c3 hs x3_3 x3_4 hlt hltI bd od h Ab cb x3_5 rec n hc4 hb k20 hrg x3_6 HSS k29 h1 hn8 hwn hmn hmnI
  have hnew : Box (mdRun (l.take (k + 1)) = ⟨R.cut (endAt R.low rl n.toNat), rl.drop n.toNat, sy - n.toNat⟩) := ⟨by rw [HSS.out]; unfold mdStep; simp [show min n.toNat rl.length = n.toNat by omega]⟩
  obtain ⟨rl', hrl'⟩ : ∃ x, rl.drop n.toNat = x := ⟨_, rfl⟩
  obtain ⟨sy', hsy'⟩ : ∃ x, sy - n.toNat = x := ⟨_, rfl⟩
  obtain ⟨R', hR'⟩ : ∃ x, R.cut (endAt R.low rl n.toNat) = x := ⟨_, rfl⟩
  have hDD : Box (R'.D = R.D) := ⟨by rw [← hR']; simp⟩
  have HX := Box.mk (And.intro hrl' (And.intro hsy' hR'))
  rw [hrl', hsy', hR'] at hnew
  clear hrl' hsy' hR'
  go_wp2_with (first
    | (guard_target = wpList _ _ _ (⟨some 20, .load _ _, _, _, _, _⟩ :: _) _ _; refine wpl (o := ⟨some 20, .load _ _, _, _, _, _⟩) rfl fun K hK => op_load rfl (ad := ⟨bm, 1, none⟩) rfl (by kernel_rfl) k20 (hK _ _ ?_); clear hK K)
    | (guard_target = wpList _ _ _ (⟨some 29, .load _ _, _, _, _, _⟩ :: _) _ _; refine wpl (o := ⟨some 29, .load _ _, _, _, _, _⟩) rfl fun K hK => op_load rfl (ad := ⟨bd, od + k * 3, none⟩) rfl (by kernel_rfl) k29 (hK _ _ ?_); clear hK K))
  have cS : ∀ w M, Sat W w M → old W ∈ M → r15S bd (od + k * 3) (rdCells ⟨2, rec, n⟩ (.slice Ab rec.length cb)) w := fun w M h ho => rold_range h ho hrg (by simp [rdCells])
  have d80 : ∀ w, r15S bd (od + k * 3) (rdCells ⟨2, rec, n⟩ (.slice Ab rec.length cb)) w → w.cell? ⟨bd, od + k * 3 + 2, none⟩ = some (.int .u8 (n.toNat : Int)) := fun w h => h 2 _ rfl
  have hS0 := cS _ _ hs.drew (by (try dsimp only [List.set]); repeat (first | exact hold | apply List.mem_cons_of_mem))
  refine wp_region_tree (r15S bd (od + k * 3) (rdCells ⟨2, rec, n⟩ (.slice Ab rec.length cb))) (.take 1 (.take 2 (.take 3 (.take 4 (.take 5 (.take 6 (.take 7 (.all [(0, .all [(8, .take 9 (.take 10 (.all [(11, .all [(12, DTree.done)])])))]), (8, .take 9 (.take 10 (.all [(0, .all [(11, .all [(12, DTree.done)])])])))])))))))) (by kernel_rfl) (by kernel_rfl) (by kernel_rfl) (fun _ _ d _ _ h => by cases d <;> exact h) hS0 ?_
  have hs' := hs.drew
  clear hs
  have hs := hs'
  clear hs'
  have hq := fun p : Prop => class_const hS0 p
  clear hS0
  repeat (first
    | (with_reducible refine tree_load (o := ⟨some 80, .load _ _, _, _, _, _⟩) rfl rfl rfl rfl rfl d80 ?_)
    | (refine tree_take rfl (fun K hK => ?_); go_simp; (first | with_reducible refine hK _ ?_ | (rw [if_neg (by decide)]; with_reducible refine hK _ ?_)); clear hK K))
  refine tree_all (trees_cons_yes (o := _) rfl rfl (fun K hK => ?_) (cS _ _ hs (by (try dsimp only [List.set]); repeat (first | exact hold | apply List.mem_cons_of_mem))) (trees_cons_yes (o := _) rfl rfl (fun K hK => ?_) (cS _ _ hs (by (try dsimp only [List.set]); repeat (first | exact hold | apply List.mem_cons_of_mem))) trees_nil))
  · refine op_load_agg rfl (b := bm) (i := 0) rfl (mdCells b1 br (.slice A2 rl.length c2) (.slice A3 rl.length c3) sy) (range_whole hs (by (try dsimp only [List.set]); repeat (first | with_reducible exact List.mem_cons_self | with_reducible apply List.mem_cons_of_mem))) (by kernel_rfl) (by kernel_rfl) (hK _ _ (cS _ _ hs (by (try dsimp only [List.set]); repeat (first | exact hold | apply List.mem_cons_of_mem))) ?_)
    clear hK K
    try go_simp
    refine tree_one_yes (o := _) rfl rfl (fun K hK => ?_) (cS _ _ hs (by (try dsimp only [List.set]); repeat (first | exact hold | apply List.mem_cons_of_mem)))
    refine op_load rfl (ad := ⟨bm, 2, none⟩) rfl (by kernel_rfl) (hs.cell (l := (mdCells b1 br (.slice A2 rl.length c2) (.slice A3 rl.length c3) sy)) (t := 56) (by (try dsimp only [List.set]); repeat (first | with_reducible exact List.mem_cons_self | with_reducible apply List.mem_cons_of_mem)) rfl) (hK _ _ (cS _ _ hs (by (try dsimp only [List.set]); repeat (first | exact hold | apply List.mem_cons_of_mem))) ?_)
    clear hK K
    try go_simp
    repeat (first
      | (with_reducible refine tree_load (o := ⟨some 80, .load _ _, _, _, _, _⟩) rfl rfl rfl rfl rfl d80 ?_)
      | (refine tree_take rfl (fun K hK => ?_); go_simp; (first | with_reducible refine hK _ ?_ | (rw [if_neg (by decide)]; with_reducible refine hK _ ?_)); clear hK K))
    refine tree_one_yes (o := _) rfl rfl (fun K hK => ?_) (cS _ _ hs (by (try dsimp only [List.set]); repeat (first | exact hold | apply List.mem_cons_of_mem)))
    try go_simp
    go_at_call 53
    refine (sccut_spec W _ _ b1 br R rl sy n.toNat (.slice A2 rl.length c2) (.slice A3 rl.length c3) (((hs.pick (A := rg br b1 R) (by repeat (first | with_reducible exact Pick.here | with_reducible apply Pick.there))).pick (A := sl1 (.slice A3 rl.length c3) rl.length (rcsN rl)) (by repeat (first | with_reducible exact Pick.here | with_reducible apply Pick.there))).pick (A := sl1 (.slice A2 rl.length c2) rl.length (rcsS rl)) (by repeat (first | with_reducible exact Pick.here | with_reducible apply Pick.there))) (by omega) (by omega) (by omega)).mono ?_
    clear hs
    rintro e w5 ⟨v2', v3', rfl, hs⟩
    rw [HX.out.1, HX.out.2.2] at hs
    rw [HX.out.2.1]
    obtain ⟨A2', c2', rfl, _, _⟩ := slice_form (hs.slice (Has.mem m0 fun F h => h))
    obtain ⟨A3', c3', rfl, _, _⟩ := slice_form (hs.slice (Has.mem m1 fun F h => h))
    try go_simp
    refine hK _ _ (cS _ _ hs (by (try dsimp only [List.set]); repeat (first | exact hold | apply List.mem_cons_of_mem))) ?_
    clear hK K
    refine tree_one_yes (o := _) rfl rfl (fun K hK => ?_) (cS _ _ hs (by (try dsimp only [List.set]); repeat (first | exact hold | apply List.mem_cons_of_mem)))
    refine op_store_whole (hs.pick (A := row bm (mdCells b1 br (.slice A2 rl.length c2) (.slice A3 rl.length c3) sy) 56) (by repeat (first | with_reducible exact Pick.here | with_reducible apply Pick.there))) rfl (b := bm) rfl (mdCells b1 br (.slice A2' rl'.length c2') (.slice A3' rl'.length c3') sy') rfl (md_one _ _ _ _ _ _ _ _ _) (by kernel_rfl) (k := 0) rfl rfl fun w3 h => hK _ _ (cS _ _ h (by (try dsimp only [List.set]); repeat (first | exact hold | apply List.mem_cons_of_mem))) ?_
    clear hs hK K
    have hs := h
    clear h
    try dsimp only [List.set] at hs
    try go_simp
    refine tree_done ?_
    clear hq
    go_wp2_with fail
    refine ⟨⟨k + 1, .slice A2' rl'.length c2', .slice A3' rl'.length c3', by omega, by go_num, ?_⟩, by simp only [intOf]; omega⟩
    rw [hnew.out]
    dsimp only
    rw [hDD.out]
    exact hs.pack (by repeat (first | with_reducible exact Pack.refl | with_reducible exact Pack.nil | with_reducible refine Pack.cons (by repeat (first | with_reducible exact Pick.here | with_reducible apply Pick.there)) ?_ | with_reducible apply Pack.drop))
  · refine op_load rfl (ad := ⟨bm, 2, none⟩) rfl (by kernel_rfl) (hs.cell (l := (mdCells b1 br (.slice A2 rl.length c2) (.slice A3 rl.length c3) sy)) (t := 56) (by (try dsimp only [List.set]); repeat (first | with_reducible exact List.mem_cons_self | with_reducible apply List.mem_cons_of_mem)) rfl) (hK _ _ (cS _ _ hs (by (try dsimp only [List.set]); repeat (first | exact hold | apply List.mem_cons_of_mem))) ?_)
    clear hK K
    try go_simp
    repeat (first
      | (with_reducible refine tree_load (o := ⟨some 80, .load _ _, _, _, _, _⟩) rfl rfl rfl rfl rfl d80 ?_)
      | (refine tree_take rfl (fun K hK => ?_); go_simp; (first | with_reducible refine hK _ ?_ | (rw [if_neg (by decide)]; with_reducible refine hK _ ?_)); clear hK K))
    refine tree_one_yes (o := _) rfl rfl (fun K hK => ?_) (cS _ _ hs (by (try dsimp only [List.set]); repeat (first | exact hold | apply List.mem_cons_of_mem)))
    refine op_load_agg rfl (b := bm) (i := 0) rfl (mdCells b1 br (.slice A2 rl.length c2) (.slice A3 rl.length c3) sy) (range_whole hs (by (try dsimp only [List.set]); repeat (first | with_reducible exact List.mem_cons_self | with_reducible apply List.mem_cons_of_mem))) (by kernel_rfl) (by kernel_rfl) (hK _ _ (cS _ _ hs (by (try dsimp only [List.set]); repeat (first | exact hold | apply List.mem_cons_of_mem))) ?_)
    clear hK K
    try go_simp
    refine tree_one_yes (o := _) rfl rfl (fun K hK => ?_) (cS _ _ hs (by (try dsimp only [List.set]); repeat (first | exact hold | apply List.mem_cons_of_mem)))
    try go_simp
    go_at_call 53
    refine (sccut_spec W _ _ b1 br R rl sy n.toNat (.slice A2 rl.length c2) (.slice A3 rl.length c3) (((hs.pick (A := rg br b1 R) (by repeat (first | with_reducible exact Pick.here | with_reducible apply Pick.there))).pick (A := sl1 (.slice A3 rl.length c3) rl.length (rcsN rl)) (by repeat (first | with_reducible exact Pick.here | with_reducible apply Pick.there))).pick (A := sl1 (.slice A2 rl.length c2) rl.length (rcsS rl)) (by repeat (first | with_reducible exact Pick.here | with_reducible apply Pick.there))) (by omega) (by omega) (by omega)).mono ?_
    clear hs
    rintro e w5 ⟨v2', v3', rfl, hs⟩
    rw [HX.out.1, HX.out.2.2] at hs
    rw [HX.out.2.1]
    obtain ⟨A2', c2', rfl, _, _⟩ := slice_form (hs.slice (Has.mem m0 fun F h => h))
    obtain ⟨A3', c3', rfl, _, _⟩ := slice_form (hs.slice (Has.mem m1 fun F h => h))
    try go_simp
    refine hK _ _ (cS _ _ hs (by (try dsimp only [List.set]); repeat (first | exact hold | apply List.mem_cons_of_mem))) ?_
    clear hK K
    refine tree_one_yes (o := _) rfl rfl (fun K hK => ?_) (cS _ _ hs (by (try dsimp only [List.set]); repeat (first | exact hold | apply List.mem_cons_of_mem)))
    refine op_store_whole (hs.pick (A := row bm (mdCells b1 br (.slice A2 rl.length c2) (.slice A3 rl.length c3) sy) 56) (by repeat (first | with_reducible exact Pick.here | with_reducible apply Pick.there))) rfl (b := bm) rfl (mdCells b1 br (.slice A2' rl'.length c2') (.slice A3' rl'.length c3') sy') rfl (md_one _ _ _ _ _ _ _ _ _) (by kernel_rfl) (k := 0) rfl rfl fun w3 h => hK _ _ (cS _ _ h (by (try dsimp only [List.set]); repeat (first | exact hold | apply List.mem_cons_of_mem))) ?_
    clear hs hK K
    have hs := h
    clear h
    try dsimp only [List.set] at hs
    try go_simp
    refine tree_done ?_
    clear hq
    go_wp2_with fail
    refine ⟨⟨k + 1, .slice A2' rl'.length c2', .slice A3' rl'.length c3', by omega, by go_num, ?_⟩, by simp only [intOf]; omega⟩
    rw [hnew.out]
    dsimp only
    rw [hDD.out]
    exact hs.pack (by repeat (first | with_reducible exact Pack.refl | with_reducible exact Pack.nil | with_reducible refine Pack.cons (by repeat (first | with_reducible exact Pick.here | with_reducible apply Pick.there)) ?_ | with_reducible apply Pack.drop))
set_option maxRecDepth 100000 in
set_option maxHeartbeats 16000000 in
theorem scrun_spec_a_b_i : scrun_spec_a_b_cut.p5 := by
  intro W w L hold l cap hl1 hl2 hl3 hinv hsmall hlen D0 hR0 hmay HD0 b2 x1_1 x1_2 b1 bm w1 x1_3 cS0 dc x1_4 w5 br w3 x1_5 x1_6 wr u5 u6 u14 u15 u16 u17 u18 u19 u20 u21 u22 u23 u24 u25 u26 u27 u28 u29 u30 u31 u32 u33 u34 u35 u36 u37 u38 u39 u40 u41 u42 u43 u44 u45 u46 u47 u48 u49 u50 u51 u52 u53 u54 u55 u56 u57 u58 u59 u60 u61 u62 u63 u64 u65 u66 u67 u68 u69 u70 u71 u72 u73 u74 u75 u76 u77 u78 u79 u80 u81 u82 u83 u84 u85 u86 k hk R rl sy HF HS hI ok hrow hcnt hsy A2 c2 x3_1 x3_2 A3 c3 hs x3_3 x3_4 hlt hltI bd od h Ab cb x3_5 kind rec n hc4 hrg hb x3_6 HSS k20 k29 h1 h2 h1I
  have h2I : (kind == 2) = false := by simp [h2]
  have hnew : Box (mdRun (l.take (k + 1)) = ⟨R.sync, rl, rl.length⟩) := ⟨by rw [HSS.out]; unfold mdStep; simp [h1, h2]⟩
  go_wp2_with (first
    | (guard_target = wpList _ _ _ (⟨some 20, .load _ _, _, _, _, _⟩ :: _) _ _; refine wpl (o := ⟨some 20, .load _ _, _, _, _, _⟩) rfl fun K hK => op_load rfl (ad := ⟨bm, 1, none⟩) rfl (by kernel_rfl) k20 (hK _ _ ?_); clear hK K)
    | (guard_target = wpList _ _ _ (⟨some 29, .load _ _, _, _, _, _⟩ :: _) _ _; refine wpl (o := ⟨some 29, .load _ _, _, _, _, _⟩) rfl fun K hK => op_load rfl (ad := ⟨bd, od + k * 3, none⟩) rfl (by kernel_rfl) k29 (hK _ _ ?_); clear hK K)
    | (guard_target = wpList _ _ _ (⟨some 31, .load _ _, _, _, _, _⟩ :: _) _ _; refine wpl (o := ⟨some 31, .load _ _, _, _, _, _⟩) rfl fun K hK => op_load rfl (ad := ⟨bm, 0, none⟩) rfl (by kernel_rfl) (hs.cell (l := (mdCells b1 br (.slice A2 rl.length c2) (.slice A3 rl.length c3) sy)) (t := 56) (by (try dsimp only [List.set]); repeat (first | with_reducible exact List.mem_cons_self | with_reducible apply List.mem_cons_of_mem)) rfl) (hK _ _ ?_); clear hK K)
    | (go_at_call 29; go_must (refine (sync_spec W _ _ b1 R.D (hs.pick (A := disk b1 R.D) (by repeat (first | with_reducible exact Pick.here | with_reducible apply Pick.there))) (by omega)).mono ?_); clear hs; rintro e w1 ⟨rfl, hs⟩)
    | (guard_target = wpList _ _ _ (⟨some 34, .load _ _, _, _, _, _⟩ :: _) _ _; refine wpl (o := ⟨some 34, .load _ _, _, _, _, _⟩) rfl fun K hK => op_load rfl (ad := ⟨bm, 2, none⟩) rfl (by kernel_rfl) (hs.cell (l := (mdCells b1 br (.slice A2 rl.length c2) (.slice A3 rl.length c3) sy)) (t := 56) (by (try dsimp only [List.set]); repeat (first | with_reducible exact List.mem_cons_self | with_reducible apply List.mem_cons_of_mem)) rfl) (hK _ _ ?_); clear hK K)
    | (guard_target = wpList _ _ _ (⟨none, .store _ (.tmp 36) _, _, _, _, _⟩ :: _) _ _; refine wpl (o := ⟨none, .store _ (.tmp 36) _, _, _, _, _⟩) rfl fun K hK => ?_; go_must (refine op_store (hs.pick (A := row bm (mdCells b1 br (.slice A2 rl.length c2) (.slice A3 rl.length c3) sy) 56) (by repeat (first | with_reducible exact Pick.here | with_reducible apply Pick.there))) rfl (b := bm) (i := 4) (v := .int .i64 (rl.length : Nat)) rfl rfl rfl (by kernel_rfl) (k := 0) rfl (by simp [mdCells]) fun w7 h => hK _ _ ?_); clear hs hK K; have hs := h; clear h; change Sat W _ (row bm (mdCells b1 br (.slice A2 rl.length c2) (.slice A3 rl.length c3) rl.length) 56 :: _) at hs))
  refine ⟨⟨k + 1, .slice A2 rl.length c2, .slice A3 rl.length c3, by omega, by go_num, ?_⟩, by simp only [intOf]; omega⟩
  rw [hnew.out]
  dsimp only [Rg.sync]
  exact hs.pack (L := row bm (mdCells b1 br (.slice A2 rl.length c2) (.slice A3 rl.length c3) rl.length) 56 :: sl1 (.slice A2 rl.length c2) rl.length (rcsS rl) :: sl1 (.slice A3 rl.length c3) rl.length (rcsN rl) :: rg br b1 R :: disk b1 R.D.sync :: row b2 zmd 56 :: L) (by repeat (first | with_reducible exact Pack.refl | with_reducible exact Pack.nil | with_reducible refine Pack.cons (by repeat (first | with_reducible exact Pick.here | with_reducible apply Pick.there)) ?_ | with_reducible apply Pack.drop))
set_option maxRecDepth 100000 in
set_option maxHeartbeats 16000000 in
theorem scrun_spec_a_b_j : scrun_spec_a_b_cut.p6 := by
  intro W w L hold l A cap h hl1 hl2 hl3 hinv hsmall hlen D0 hR0 hmay HD0 b2 x1_1 x1_2 b1 bm w1 x1_3 cS0 dc x1_4 w5 br w3 x1_5 x1_6 wr u5 u6 u14 u15 u16 u17 u18 u19 u20 u21 u22 u23 u24 u25 u26 u27 u28 u29 u30 u31 u32 u33 u34 u35 u36 u37 u38 u39 u40 u41 u42 u43 u44 u45 u46 u47 u48 u49 u50 u51 u52 u53 u54 u55 u56 u57 u58 u59 u60 u61 u62 u63 u64 u65 u66 u67 u68 u69 u70 u71 u72 u73 u74 u75 u76 u77 u78 u79 u80 u81 u82 u83 u84 u85 u86 k hk R rl sy HF HS hI ok hrow hcnt hsy A2 c2 x3_1 x3_2 A3 c3 hs x3_3 x3_4 hlt hltI
  have HE : Box (mdRun l = ⟨R, rl, sy⟩) := ⟨(HF.out (by omega)).symm⟩
  go_wp2_with (first
    | (guard_target = wpList _ _ _ (⟨some 87, .load _ _, _, _, _, _⟩ :: _) _ _; refine wpl (o := ⟨some 87, .load _ _, _, _, _, _⟩) rfl fun K hK => op_load_agg rfl (b := bm) (i := 0) rfl ((mdCells b1 br (.slice A2 rl.length c2) (.slice A3 rl.length c3) sy)) (range_whole hs (by (try dsimp only [List.set]); repeat (first | with_reducible exact List.mem_cons_self | with_reducible apply List.mem_cons_of_mem))) (by kernel_rfl) (by kernel_rfl) (hK _ _ ?_); clear hK K)
    | (guard_target = wpList _ _ _ (⟨none, .store _ (.tmp 2) _, _, _, _, _⟩ :: _) _ _; refine wpl (o := ⟨none, .store _ (.tmp 2) _, _, _, _, _⟩) rfl fun K hK => ?_; go_must (refine op_store_whole (hs.pick (A := row b2 zmd 56) (by repeat (first | with_reducible exact Pick.here | with_reducible apply Pick.there))) (b := b2) rfl rfl (mdCells b1 br (.slice A2 rl.length c2) (.slice A3 rl.length c3) sy) rfl (md_one _ _ _ _ _ _ _ _ _) (by kernel_rfl) (k := 0) rfl rfl fun w3 h => hK _ _ ?_); clear hs hK K; have hs := h; clear h; try dsimp only [List.set] at hs))
  refine bodyPost_ret (run_results_cell rfl (b := b2) rfl (mdCells b1 br (.slice A2 rl.length c2) (.slice A3 rl.length c3) sy) (range_whole hs m0) (by kernel_rfl) (by kernel_rfl)) rfl ?_
  rw [HE.out]
  exact ⟨b1, br, _, _, rfl, hs.pack (by repeat (first | with_reducible exact Pack.refl | with_reducible exact Pack.nil | with_reducible refine Pack.cons (by repeat (first | with_reducible exact Pick.here | with_reducible apply Pick.there)) ?_ | with_reducible apply Pack.drop))⟩
theorem scrun_spec_a_b : scrun_spec_a_cut.p1 :=
  scrun_spec_a_b_cut.go ⟨scrun_spec_a_b_c⟩ ⟨scrun_spec_a_b_f⟩ ⟨scrun_spec_a_b_g⟩ ⟨scrun_spec_a_b_h⟩ ⟨scrun_spec_a_b_i⟩ ⟨scrun_spec_a_b_j⟩
theorem scrun_spec_a : scrun_spec_cut.p1 :=
  scrun_spec_a_cut.go ⟨scrun_spec_a_b⟩
theorem scrun_spec (W w : World) (L : List HP) (hs : Sat W w L) (hold : old W ∈ L) (v : Value) (l : List RDeed) (h : rdeedsAt v l (hp W)) (hsm : Small l) :
    Calls Try.prog 23 #[v] w (scrunPost (mdRun l) W L) :=
  scrun_spec_cut.go ⟨scrun_spec_a⟩ W w L hs hold v l h hsm
end Go.Proofs.Ytimknlabhhopcaa
