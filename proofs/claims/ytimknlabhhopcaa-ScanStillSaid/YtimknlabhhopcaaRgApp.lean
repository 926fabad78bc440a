/- The contract of a ring's Append. -/
import Derived.Test.YtimknlabhhopcaaRgW
import Derived.Test.YtimknlabhhopcaaFrParse
set_option linter.unusedVariables false
set_option linter.unusedSimpArgs false
namespace Go.Proofs.Ytimknlabhhopcaa
open Go.RowKit
theorem own_rng {W w : World} {L : List HP} (hs : Sat W w L) {b n cap sz i : Nat} {e : TypeId} {vs cs : List Value} (hm : own (.slice (some ⟨b, 0, none⟩) n cap) e n sz vs ∈ L) (h : ∀ j v, cs[j]? = some v → vs[i + j]? = some v) : w.rangeAt b i cs := fun j v hv => own_cell hs hm (h j v hv)
theorem frs_prt (l : List (Fr × Value)) (i : Nat) (h : i < l.length) : ∀ j v, (frCells l[i].1 l[i].2)[j]? = some v → (frsCells l)[i * 4 + j]? = some v := fun j v hv => by
  have hj : j < 4 := by
    have := (List.getElem?_eq_some_iff.1 hv).1
    simpa using this
  rw [frsCells_get l i h j hj]; exact hv
theorem fpack_row (W w : World) (L : List HP) (hs : Sat W w L) (f : Fr) (ok : f.Ok) (vb : Value) (hb : Has L (bytesAt vb f.body)) (h50 : f.body.length ≤ 50) :
    Calls Try.prog 56 #[.agg (frCells f vb).toArray] w (fpackPost f W L) := fpack_spec W w L hs f ok vb hb h50
theorem rg_cell {W w : World} {L : List HP} {br b : Nat} {R : Rg} (hs : Sat W w L) (hm : rg br b R ∈ L) (i : Nat) {v : Value} (h : (rgCells b R)[i]? = some v) : w.cell? ⟨br, i, none⟩ = some v := hs.cell (t := 125) hm h
def twoR (b : Nat) (cs : List Value) (c : Nat) (ds : List Value) (w : World) : Prop := w.rangeAt b 0 cs ∧ w.rangeAt c 0 ds
/-- The ring's record in a list of frames, by its place. -/
theorem frames_ok {R : Rg} (ok : R.Ok) (rec : List UInt8) : ∀ f ∈ R.frames rec, f.Ok := fun f hf => by
  obtain ⟨i, hi, rfl⟩ := List.mem_iff_getElem.1 hf
  have hi' : i < (cuts rec).length := by simpa [Rg.frames] using hi
  have h := cutF_get R.epoch R.next rec i hi'
  have h2 : (cutF R.epoch R.next rec)[i]'(by simpa [Rg.frames] using hi) = (R.frames rec)[i] := rfl
  rw [List.getElem?_eq_getElem (by simpa [Rg.frames] using hi), h2] at h
  rw [Option.some.inj h]
  exact ⟨ok.ep, Nat.mod_lt _ (by omega)⟩
set_option maxRecDepth 100000 in
set_option maxHeartbeats 4000000 in
theorem append_nil (W w : World) (L : List HP) (hs : Sat W w L) (v : Value) :
    Calls Try.prog 30 #[.pointer none, v] w fun e w' => e = .returned (.tuple #[.int .u32 0, .int .i64 1]) ∧ Sat W w' L := by
  go_enter Try.func30, Try.ntmps30
  go_wp2_with fail
  go_ret2
  exact ⟨rfl, hs⟩
set_option maxRecDepth 100000 in
set_option maxHeartbeats 4000000 in
theorem append_spec (W w : World) (L : List HP) (br b : Nat) (R : Rg) (ok : R.Ok) (hs : Sat W w (disk b R.D :: rg br b R :: L)) (v : Value) (rec : List UInt8) (hv : Has L (bytesAt v rec)) (hl : rec.length ≤ 100000) (hr : R.D.row.length ≤ 800000) :
    Calls Try.prog 30 #[.pointer (some ⟨br, 0, none⟩), v] w fun e w' => e = .returned (.tuple #[.int .u32 (R.told rec : Nat), .int .i64 (R.code rec : Nat)]) ∧ Sat W w' (disk b (R.append rec).D :: rg br b (R.append rec) :: L) := by
  obtain ⟨A, cap, rfl, hc1, hc2⟩ := slice_form (hs.bytes hv.tail.tail)
  obtain ⟨n, hn⟩ : ∃ n, (cuts rec).length = n := ⟨_, rfl⟩
  have hcl : Box ((cutF R.epoch R.next rec).length = n) := ⟨by rw [cutF_length, hn]⟩
  have hnb : 0 < n ∧ n ≤ 100001 := by
    have h1 := cuts_count rec
    have h2 := List.length_pos_iff.2 (cuts_ne rec)
    omega
  obtain ⟨hn0, hn1⟩ := hnb
  have hepb := Box.mk ok.ep
  have hnext := ok.top
  have hnextb : R.next < 4294967296 := by omega
  have cS : ∀ w M, Sat W w M → rg br b R ∈ M → rngS br (rgCells b R) w := fun w M h hm => range_whole h hm
  have c2 : ∀ w, rngS br (rgCells b R) w → w.cell? ⟨br, 2, none⟩ = some (.int .u32 (R.epoch : Nat)) := fun w h => h 2 _ rfl
  have c5 : ∀ w, rngS br (rgCells b R) w → w.cell? ⟨br, 5, none⟩ = some (.int .u32 (R.next : Nat)) := fun w h => h 5 _ rfl
  have hw1 : IntKind.i64.wrap (1073741824 - (R.next : Int)) = 1073741824 - (R.next : Int) := by rw [IntKind.wrap_i64]; omega
  have hw2 : IntKind.i64.wrap (R.next : Int) = (R.next : Int) := by rw [IntKind.wrap_i64]; omega
  go_enter Try.func30, Try.ntmps30
  go_wp2_with fail
  have hS0 := cS _ _ hs.drew (by (try dsimp only [List.set]); repeat (first | with_reducible exact List.mem_cons_self | with_reducible apply List.mem_cons_of_mem))
  refine wp_region_tree (rngS br (rgCells b R)) (.take 0 (.take 1 (.take 2 (.take 3 (.take 4 (.take 5 (.take 6 (.take 7 (.take 8 (.take 9 (.all [(10, .take 11 (DTree.done))]))))))))))) (by kernel_rfl) (by kernel_rfl) (by kernel_rfl) (fun _ _ d _ _ h => by cases d <;> exact h) hS0 ?_
  have hs' := hs.drew
  clear hs
  have hs := hs'
  clear hs'
  have hq := fun p : Prop => class_const hS0 p
  clear hS0
  repeat (first
    | (with_reducible refine tree_load (o := ⟨some 17, .load _ _, _, _, _, _⟩) rfl rfl rfl rfl rfl c2 ?_)
    | (with_reducible refine tree_load (o := ⟨some 21, .load _ _, _, _, _, _⟩) rfl rfl rfl rfl rfl c5 ?_)
    | (refine tree_take rfl (fun K hK => ?_); go_simp; (first | with_reducible refine hK _ ?_ | (rw [if_neg (by decide)]; with_reducible refine hK _ ?_)); clear hK K))
  refine tree_one_yes (o := _) rfl rfl (fun K hK => ?_) (cS _ _ hs (by (try dsimp only [List.set]); repeat (first | with_reducible exact List.mem_cons_self | with_reducible apply List.mem_cons_of_mem)))
  try go_simp
  go_at_call 54
  refine (cut_spec W _ _ hs R.epoch R.next ok.ep hnextb _ rec hv.tail.tail (by omega)).mono ?_
  clear hs
  rintro e w5 ⟨v8, l8, rfl, hl8, hs⟩
  rw [hcl.out] at hs
  obtain ⟨b8, c8, sp, rfl, _, _, _, _⟩ := hs.ownOpen (i := 0) rfl hn0
  try go_simp
  refine hK _ _ (cS _ _ hs (by (try dsimp only [List.set]); repeat (first | with_reducible exact List.mem_cons_self | with_reducible apply List.mem_cons_of_mem))) ?_
  clear hK K
  repeat (first
    | (with_reducible refine tree_load (o := ⟨some 17, .load _ _, _, _, _, _⟩) rfl rfl rfl rfl rfl c2 ?_)
    | (with_reducible refine tree_load (o := ⟨some 21, .load _ _, _, _, _, _⟩) rfl rfl rfl rfl rfl c5 ?_)
    | (refine tree_take rfl (fun K hK => ?_); go_simp; (first | with_reducible refine hK _ ?_ | (rw [if_neg (by decide)]; with_reducible refine hK _ ?_)); clear hK K))
  refine tree_done ?_
  clear hq
  by_cases hfree : R.free < n
  · have hcode : R.code rec = 3 := by unfold Rg.code; rw [hn, if_pos hfree]
    have htold : R.told rec = 0 := by unfold Rg.told; rw [hcode]; rfl
    have happ : R.append rec = R := by unfold Rg.append; rw [hcode]; rfl
    have hfreeI : (R.free : Int) < (n : Int) := by omega
    go_wp2_with (first
      | (go_at_call 55; go_must (refine (rfree_spec W _ _ hs br b R ok (by (try dsimp only [List.set]); repeat (first | with_reducible exact List.mem_cons_self | with_reducible apply List.mem_cons_of_mem))).mono ?_); clear hs; rintro e w1 ⟨rfl, hs⟩))
    go_ret2
    exact ⟨by rw [hcode, htold]; rfl, by rw [happ]; exact hs.pack (by repeat (first | with_reducible exact Pack.refl | with_reducible exact Pack.nil | with_reducible refine Pack.cons (by repeat (first | with_reducible exact Pick.here | with_reducible apply Pick.there)) ?_ | with_reducible apply Pack.drop))⟩
  · have hfreeI : ¬ (R.free : Int) < (n : Int) := by omega
    by_cases hover : 1073741824 < R.next + n
    · have hcode : R.code rec = 10 := by unfold Rg.code; rw [hn, if_neg hfree, if_pos hover]
      have htold : R.told rec = 0 := by unfold Rg.told; rw [hcode]; rfl
      have happ : R.append rec = R := by unfold Rg.append; rw [hcode]; rfl
      have hoverI : (1073741824 : Int) - (R.next : Int) < (n : Int) := by omega
      go_wp2_with (first
        | (go_at_call 55; go_must (refine (rfree_spec W _ _ hs br b R ok (by (try dsimp only [List.set]); repeat (first | with_reducible exact List.mem_cons_self | with_reducible apply List.mem_cons_of_mem))).mono ?_); clear hs; rintro e w1 ⟨rfl, hs⟩)
        | (guard_target = wpList _ _ _ (⟨some 36, .load _ _, _, _, _, _⟩ :: _) _ _; refine wpl (o := ⟨some 36, .load _ _, _, _, _, _⟩) rfl fun K hK => op_load rfl (ad := ⟨br, 5, none⟩) rfl (by kernel_rfl) (rg_cell (b := b) (R := R) hs (by (try dsimp only [List.set]); repeat (first | with_reducible exact List.mem_cons_self | with_reducible apply List.mem_cons_of_mem)) 5 rfl) (hK _ _ ?_); clear hK K))
      go_ret2
      exact ⟨by rw [hcode, htold]; rfl, by rw [happ]; exact hs.pack (by repeat (first | with_reducible exact Pack.refl | with_reducible exact Pack.nil | with_reducible refine Pack.cons (by repeat (first | with_reducible exact Pick.here | with_reducible apply Pick.there)) ?_ | with_reducible apply Pack.drop))⟩
    · have hcode0 : R.code rec = 0 := by unfold Rg.code; rw [hn, if_neg hfree, if_neg hover]
      have htold0 : R.told rec = R.next + n := by unfold Rg.told; rw [hcode0, hn]; rfl
      have happ0 : R.append rec = { R with D := R.lay R.D (R.frames rec), next := R.next + n } := by unfold Rg.append; rw [hcode0, hn]; rfl
      have hcode := Box.mk hcode0
      have htold := Box.mk htold0
      have happ := Box.mk happ0
      clear hcode0 htold0 happ0
      have hoverI : ¬ (1073741824 : Int) - (R.next : Int) < (n : Int) := by omega
      have hplace := ok.place
      have hdfew := ok.disk.few
      have hmany1 := ok.many1
      go_wp2_with (first
        | (go_at_call 55; go_must (refine (rfree_spec W _ _ hs br b R ok (by (try dsimp only [List.set]); repeat (first | with_reducible exact List.mem_cons_self | with_reducible apply List.mem_cons_of_mem))).mono ?_); clear hs; rintro e w1 ⟨rfl, hs⟩)
        | (guard_target = wpList _ _ _ (⟨some 36, .load _ _, _, _, _, _⟩ :: _) _ _; refine wpl (o := ⟨some 36, .load _ _, _, _, _, _⟩) rfl fun K hK => op_load rfl (ad := ⟨br, 5, none⟩) rfl (by kernel_rfl) (rg_cell (b := b) (R := R) hs (by (try dsimp only [List.set]); repeat (first | with_reducible exact List.mem_cons_self | with_reducible apply List.mem_cons_of_mem)) 5 rfl) (hK _ _ ?_); clear hK K))
      have hlay0 := hs.pack (L := disk b (R.lay R.D ((R.frames rec).take 0)) :: rg br b R :: own (.slice (some ⟨b8, 0, none⟩) n c8) 110 n 4 (frsCells l8) :: bods l8 :: L) (by
        rw [show R.lay R.D ((R.frames rec).take 0) = R.D from rfl]
        exact (by repeat (first | with_reducible exact Pack.refl | with_reducible exact Pack.nil | with_reducible refine Pack.cons (by repeat (first | with_reducible exact Pick.here | with_reducible apply Pick.there)) ?_ | with_reducible apply Pack.drop)))
      clear hs
      have hs := hlay0
      clear hlay0
      go_loopw [42] (fun v42 wr => ∃ i : Nat, i ≤ n ∧ v42 = .int .i64 (i : Nat) ∧ Sat W wr (disk b (R.lay R.D ((R.frames rec).take i)) :: rg br b R :: own (.slice (some ⟨b8, 0, none⟩) n c8) 110 n 4 (frsCells l8) :: bods l8 :: L)) (fun v42 _ => n - (intOf v42).toNat)
      case atStart => exact ⟨0, by omega, rfl, hs⟩
      case round =>
        clear hs
        obtain ⟨i, hi, rfl, hs⟩ := hrel
        by_cases hin : i < n
        · have hinI : (i : Int) < (n : Int) := by omega
          have h8l : i < l8.length := by have := congrArg List.length hl8; simp at this; omega
          have hfl : i < (R.frames rec).length := by show i < (cutF R.epoch R.next rec).length; rw [hcl.out]; exact hin
          obtain ⟨f, y, hfy⟩ : ∃ f y, l8[i] = (f, y) := ⟨_, _, rfl⟩
          have hff : (R.frames rec)[i] = f := by
            have : (R.frames rec)[i]? = some f := by show (cutF R.epoch R.next rec)[i]? = some f; rw [← hl8]; simp [h8l, hfy]
            rw [List.getElem?_eq_getElem hfl] at this; exact Option.some.inj this
          have hfb : f.body.length ≤ 50 := by rw [← hff]; exact Rg.frames_body R rec _ (List.getElem_mem hfl)
          have hfo : f.Ok := by rw [← hff]; exact frames_ok ok rec _ (List.getElem_mem hfl)
          have hfs := hfo.2
          have hstep : Box (R.lay R.D ((R.frames rec).take (i + 1)) = (R.lay R.D ((R.frames rec).take i)).write (R.at_ f.seq) f.pack) := ⟨by rw [List.take_succ_eq_append_getElem hfl, hff, Rg.lay_snoc]⟩
          have hrow : Box ((R.lay R.D ((R.frames rec).take i)).row.length ≤ 1000000) := ⟨by rw [Rg.lay_rows]; simp; omega⟩
          have hat : Box (R.at_ f.seq < (R.lay R.D ((R.frames rec).take i)).secs.length) := ⟨by rw [Rg.lay_size]; exact Rg.at_lt ok _⟩
          have hpl : Box (f.pack.length ≤ 64) := ⟨by rw [Fr.pack_length hfb]; omega⟩
          generalize R.lay R.D ((R.frames rec).take i) = Di at hs hstep hrow hat
          have q8 := frs_prt l8 i h8l
          rw [hfy] at q8
          have hb' : Has (own (.slice (some ⟨b8, 0, none⟩) n c8) 110 n 4 (frsCells l8) :: bods l8 :: L) (bytesAt y f.body) := Has.mem (A := bods l8) (by (try dsimp only [List.set]); repeat (first | with_reducible exact List.mem_cons_self | with_reducible apply List.mem_cons_of_mem)) fun F hF => by have := bods_has h8l F hF; rw [hfy] at this; exact this
          have hb2 : Has (disk b Di :: rg br b R :: own (.slice (some ⟨b8, 0, none⟩) n c8) 110 n 4 (frsCells l8) :: bods l8 :: L) (bytesAt y f.body) := hb'.tail.tail
          obtain ⟨A8, cap8, rfl, _, _⟩ := slice_form (hs.bytes hb2)
          clear hff hfl hfy h8l
          have cS2 : ∀ w c M, Sat W w M → rg br b R ∈ M → row c (frCells f (.slice A8 f.body.length cap8)) 110 ∈ M → twoR br (rgCells b R) c (frCells f (.slice A8 f.body.length cap8)) w := fun w c M h hm hm2 => ⟨range_whole h hm, range_whole h hm2⟩
          have d3 : ∀ c w, twoR br (rgCells b R) c (frCells f (.slice A8 f.body.length cap8)) w → w.cell? ⟨br, 3, none⟩ = some (.pointer (some ⟨b, 0, none⟩)) := fun c w h => h.1 3 _ rfl
          have d0 : ∀ c w, twoR br (rgCells b R) c (frCells f (.slice A8 f.body.length cap8)) w → w.rangeAt br 0 (place R.first R.many R.epoch) := fun c w h j x hx => h.1 j x (by
            match j, hx with
            | 0, hx => exact hx
            | 1, hx => exact hx
            | 2, hx => exact hx)
          have d1 : ∀ c w, twoR br (rgCells b R) c (frCells f (.slice A8 f.body.length cap8)) w → w.cell? ⟨c, 1, none⟩ = some (.int .u32 (f.seq : Nat)) := fun c w h => h.2 1 _ rfl
          have k45 := fun w (h : Sat W w (disk b Di :: rg br b R :: own (.slice (some ⟨b8, 0, none⟩) n c8) 110 n 4 (frsCells l8) :: bods l8 :: L)) => own_rng h (by (try dsimp only [List.set]); repeat (first | with_reducible exact List.mem_cons_self | with_reducible apply List.mem_cons_of_mem)) q8
          go_wp2_with (first
            | (guard_target = wpList _ _ _ (⟨some 45, .load _ _, _, _, _, _⟩ :: _) _ _; refine wpl (o := ⟨some 45, .load _ _, _, _, _, _⟩) rfl fun K hK => op_load_agg rfl (b := b8) (i := i * 4) rfl (frCells f (.slice A8 f.body.length cap8)) (k45 _ hs) (by kernel_rfl) (by kernel_rfl) (hK _ _ ?_); clear hK K)
            | (guard_target = wpList _ _ _ (⟨some 8, .alloc _, _, _, _, _⟩ :: _) _ _; refine wpl (o := ⟨some 8, .alloc _, _, _, _, _⟩) rfl fun K hK => ?_; go_must (refine op_alloc hs rfl _ zframe [.int .u32 0, .int .u32 0, .int .u8 0, .slice none 0 0] rfl fun b12 w1 h => hK _ _ ?_); clear hs hK K; have hs := h; clear h; try dsimp only [List.set] at hs)
            | (guard_target = wpList _ _ _ (⟨none, .store _ (.tmp 8) _, _, _, _, _⟩ :: _) _ _; refine wpl (o := ⟨none, .store _ (.tmp 8) _, _, _, _, _⟩) rfl fun K hK => ?_; go_must (refine op_store_whole hs (b := b12) rfl rfl (frCells f (.slice A8 f.body.length cap8)) rfl (by simp [frCells, Value.oneCell']) (by kernel_rfl) (k := 0) rfl rfl fun w3 h => hK _ _ ?_); clear hs hK K; have hs := h; clear h; try dsimp only [List.set] at hs)
            | (guard_target = wpList _ _ _ (⟨some 47, .load _ _, _, _, _, _⟩ :: _) _ _; refine wpl (o := ⟨some 47, .load _ _, _, _, _, _⟩) rfl fun K hK => op_load_agg rfl (b := b12) (i := 0) rfl (frCells f (.slice A8 f.body.length cap8)) (range_whole hs (by (try dsimp only [List.set]); repeat (first | with_reducible exact List.mem_cons_self | with_reducible apply List.mem_cons_of_mem))) (by kernel_rfl) (by kernel_rfl) (hK _ _ ?_); clear hK K)
            | (go_at_call 56; go_must (refine (fpack_row W _ _ hs f hfo _ (by (try dsimp only [List.set]); repeat (first | exact hb2 | apply Has.tail)) hfb).mono ?_); clear hs; rintro e w1 ⟨v9, rfl, hs⟩))
          obtain ⟨A9, c9, rfl, _, _⟩ := own_slice hs (i := 0) rfl
          have hS0 := cS2 _ _ _ hs.drew (by (try dsimp only [List.set]); repeat (first | with_reducible exact List.mem_cons_self | with_reducible apply List.mem_cons_of_mem)) (by (try dsimp only [List.set]); repeat (first | with_reducible exact List.mem_cons_self | with_reducible apply List.mem_cons_of_mem))
          refine wp_region_tree (twoR br (rgCells b R) b12 (frCells f (.slice A8 f.body.length cap8))) (.take 0 (.take 1 (.take 2 (.take 3 (.take 4 (.take 5 (.take 6 (.take 7 (.take 8 (.take 9 (.take 11 (.all [(10, .all [(12, DTree.done)])])))))))))))) (by kernel_rfl) (by kernel_rfl) (by kernel_rfl) (fun _ _ d _ _ h => by cases d <;> exact h) hS0 ?_
          have hs' := hs.drew
          clear hs
          have hs := hs'
          clear hs'
          have hq := fun p : Prop => class_const hS0 p
          clear hS0
          repeat (first
            | (with_reducible refine tree_load (o := ⟨some 54, .load _ _, _, _, _, _⟩) rfl rfl rfl rfl rfl (d3 b12) ?_)
            | (with_reducible refine tree_load_agg (o := ⟨some 58, .load _ _, _, _, _, _⟩) (place R.first R.many R.epoch) rfl rfl rfl rfl ?_ ?_ (d0 b12) ?_; (kernel_rfl); (kernel_rfl))
            | (with_reducible refine tree_load (o := ⟨some 60, .load _ _, _, _, _, _⟩) rfl rfl rfl rfl rfl (d1 b12) ?_)
            | (refine tree_take rfl (fun K hK => ?_); go_simp; (first | with_reducible refine hK _ ?_ | (rw [if_neg (by decide)]; with_reducible refine hK _ ?_)); clear hK K))
          refine tree_one_yes (o := _) rfl rfl (fun K hK => ?_) (cS2 _ _ _ hs (by (try dsimp only [List.set]); repeat (first | with_reducible exact List.mem_cons_self | with_reducible apply List.mem_cons_of_mem)) (by (try dsimp only [List.set]); repeat (first | with_reducible exact List.mem_cons_self | with_reducible apply List.mem_cons_of_mem)))
          try go_simp
          go_at_call 57
          refine (at_spec W _ _ hs R.first R.many R.epoch f.seq hmany1 (by omega) hfs).mono ?_
          clear hs
          rintro e w5 ⟨rfl, hs⟩
          try go_simp
          refine hK _ _ (cS2 _ _ _ hs (by (try dsimp only [List.set]); repeat (first | with_reducible exact List.mem_cons_self | with_reducible apply List.mem_cons_of_mem)) (by (try dsimp only [List.set]); repeat (first | with_reducible exact List.mem_cons_self | with_reducible apply List.mem_cons_of_mem))) ?_
          clear hK K
          refine tree_one_yes (o := _) rfl rfl (fun K hK => ?_) (cS2 _ _ _ hs (by (try dsimp only [List.set]); repeat (first | with_reducible exact List.mem_cons_self | with_reducible apply List.mem_cons_of_mem)) (by (try dsimp only [List.set]); repeat (first | with_reducible exact List.mem_cons_self | with_reducible apply List.mem_cons_of_mem)))
          try go_simp
          go_at_call 18
          refine (write_spec W _ _ b Di (hs.pick (A := disk b Di) (by repeat (first | with_reducible exact Pick.here | with_reducible apply Pick.there))) (R.at_ f.seq) hat.out _ f.pack (Has.mem (A := own (.slice A9 64 c9) 5 64 1 (u8s f.pack)) (by (try dsimp only [List.set]); repeat (first | with_reducible exact List.mem_cons_self | with_reducible apply List.mem_cons_of_mem)) fun F hF => by have h9 := own_sliceAt F hF; unfold bytesAt; rw [Fr.pack_length hfb]; exact h9) hpl.out hrow.out).mono ?_
          clear hs
          rintro e w5 ⟨rfl, hs⟩
          try go_simp
          refine hK _ _ (cS2 _ _ _ hs (by (try dsimp only [List.set]); repeat (first | with_reducible exact List.mem_cons_self | with_reducible apply List.mem_cons_of_mem)) (by (try dsimp only [List.set]); repeat (first | with_reducible exact List.mem_cons_self | with_reducible apply List.mem_cons_of_mem))) ?_
          clear hK K
          refine tree_done ?_
          clear hq
          go_wp2_with fail
          exact ⟨⟨i + 1, by omega, rfl, by rw [hstep.out]; exact hs.pack (by repeat (first | with_reducible exact Pack.refl | with_reducible exact Pack.nil | with_reducible refine Pack.cons (by repeat (first | with_reducible exact Pick.here | with_reducible apply Pick.there)) ?_ | with_reducible apply Pack.drop))⟩, by show n - ((i : Int) + 1).toNat < n - (i : Int).toNat; omega⟩
        · have hinI : ¬ (i : Int) < (n : Int) := by omega
          have hall : (R.frames rec).take i = R.frames rec := List.take_of_length_le (by show (cutF R.epoch R.next rec).length ≤ i; rw [hcl.out]; omega)
          rw [hall] at hs
          have hw3 : IntKind.u32.wrap (n : Int) = (n : Int) := by rw [IntKind.wrap_u32]; omega
          have hw4 : IntKind.u32.wrap ((R.next : Int) + (n : Int)) = ((R.next + n : Nat) : Int) := by rw [IntKind.wrap_u32]; omega
          have hs1 : Sat W wr (row br (rgCells b R) 125 :: disk b (R.lay R.D (R.frames rec)) :: L) := hs.pack (by unfold rg; exact (by repeat (first | with_reducible exact Pack.refl | with_reducible exact Pack.nil | with_reducible refine Pack.cons (by repeat (first | with_reducible exact Pick.here | with_reducible apply Pick.there)) ?_ | with_reducible apply Pack.drop)))
          clear hs
          have hs := hs1
          clear hs1
          go_wp2_with (first
            | (guard_target = wpList _ _ _ (⟨some 68, .load _ _, _, _, _, _⟩ :: _) _ _; refine wpl (o := ⟨some 68, .load _ _, _, _, _, _⟩) rfl fun K hK => op_load rfl (ad := ⟨br, 5, none⟩) rfl (by kernel_rfl) (hs.cell (b := br) (l := rgCells b R) (t := 125) m0 rfl) (hK _ _ ?_); clear hK K)
            | (guard_target = wpList _ _ _ (⟨none, .store _ (.tmp 74) _, _, _, _, _⟩ :: _) _ _; refine wpl (o := ⟨none, .store _ (.tmp 74) _, _, _, _, _⟩) rfl fun K hK => ?_; go_must (refine op_store hs (b := br) (i := 5) (v := .int .u32 (((R.next + n : Nat) : Int))) rfl rfl rfl rfl (by kernel_rfl) (k := 0) rfl (by simp [rgCells]) fun w5 h => hK _ _ ?_); clear hs hK K; have hs := h; clear h; try dsimp only [List.set] at hs)
            | (guard_target = wpList _ _ _ (⟨some 78, .load _ _, _, _, _, _⟩ :: _) _ _; refine wpl (o := ⟨some 78, .load _ _, _, _, _, _⟩) rfl fun K hK => op_load rfl (ad := ⟨br, 5, none⟩) rfl (by kernel_rfl) (hs.cell m0 rfl) (hK _ _ ?_); clear hK K))
          go_ret2
          refine ⟨by rw [hcode.out, htold.out]; rfl, ?_⟩
          rw [happ.out]
          have hs2 : Sat W _ (rg br b { R with D := R.lay R.D (R.frames rec), next := R.next + n } :: disk b (R.lay R.D (R.frames rec)) :: L) := hs
          exact hs2.swap
end Go.Proofs.Ytimknlabhhopcaa
