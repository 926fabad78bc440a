/- The contract of pack.TakeText: it cuts at zeros, and writes into a Builder of its own. -/
import Derived.Test.YthjnefpnnifjiaaDoorPackW
import Derived.Lib.CutLaws
set_option linter.unusedVariables false
set_option linter.unusedSimpArgs false
namespace Go.Proofs.YthjnefpnnifjiaaDoor
open Go.RowKit
theorem cell_below {B : Nat} {w w' : World} (h : Below B w w') {v : Value} (h0 : 1 < B) (hc : w.cell? ⟨1, 0, none⟩ = some v) : w'.cell? ⟨1, 0, none⟩ = some v := by
  unfold World.cell? at hc ⊢
  rw [h.block 1 h0]; exact hc
theorem heap_pos {w : World} {v : Value} (hc : w.cell? ⟨1, 0, none⟩ = some v) : 1 < w.heap.size := by
  unfold World.cell? at hc
  rcases Nat.lt_or_ge 1 w.heap.size with h | h
  · exact h
  · rw [Array.getElem?_eq_none (by omega)] at hc; simp at hc
theorem below_drewN' {B : Nat} {a w : World} (h : Below B a w) (n : Nat) : Below B a (w.drewN n) := h.trans ⟨rfl, rfl, rfl, Nat.le_refl _, fun _ _ => rfl⟩
theorem isb_drewN {T e : TypeId} {B b : Nat} {bs : List Value} {w : World} (h : Lib.IsBuilder T e B b bs w) (n : Nat) : Lib.IsBuilder T e B b bs (w.drewN n) := h
/-- What a Cut at 0 tells. -/
theorem cut0 (s : List UInt8) : ((0 : UInt8) ∉ s ∧ Lib.cut s [0] = (s, [], false)) ∨ ∃ h r, s = h ++ 0 :: r ∧ (0 : UInt8) ∉ h ∧ Lib.cut s [0] = (h, r, true) := by
  rcases idx0 s with ⟨h1, h2⟩ | ⟨h, r, h1, h2, h3⟩
  · left
    refine ⟨h2, ?_⟩
    unfold Lib.cut
    rw [h1, if_neg (by decide)]
  · right
    refine ⟨h, r, h1, h2, ?_⟩
    unfold Lib.cut
    rw [h3, if_pos (by omega), Int.toNat_natCast, h1]
    simp [List.drop_append]
/-- The builder's world: what it holds, and all as it was below. -/
def bst (B : Nat) (w0 : World) (acc : List UInt8) (w : World) : Prop := Lib.IsBuilder 126 5 B B (Lib.byteCells acc) w ∧ Below B w0 w ∧ B ≤ w.heap.size
theorem bst_drew {B : Nat} {w0 w : World} {acc : List UInt8} (h : bst B w0 acc w) (n : Nat) : bst B w0 acc (w.drewN n) := ⟨h.1, below_drewN' h.2.1 n, h.2.2⟩
def cutPost (s : List UInt8) (B : Nat) (w0 : World) (acc : List UInt8) (e : Ending) (w' : World) : Prop := e = .returned (.tuple #[(.string ⟨((Lib.cut s [0]).1).toArray⟩), (.string ⟨((Lib.cut s [0]).2.1).toArray⟩), .bool (Lib.cut s [0]).2.2]) ∧ bst B w0 acc w'
theorem bcut (s : List UInt8) (hs : s.length ≤ 1073741824) {B : Nat} {w0 w : World} {acc : List UInt8} (h : bst B w0 acc w) {m : Int} (hB : 1 < B) (hm : w0.cell? ⟨1, 0, none⟩ = some (.int .i64 m)) :
    Calls Tryd.prog 69 #[(.string ⟨(s).toArray⟩), .string ⟨#[0]⟩] w (cutPost s B w0 acc) := by
  have hsz : (⟨s.toArray⟩ : ByteArray).size = s.length := by simp [ByteArray.size]
  refine (Tryd.strings_Cut ⟨s.toArray⟩ ⟨#[0]⟩ m w (by rw [hsz]; omega) (cell_below h.2.1 hB hm)).mono ?_
  rintro e w' ⟨rfl, n, rfl⟩
  exact ⟨rfl, bst_drew h n⟩
theorem bwrite (s : List UInt8) {B : Nat} {w0 w : World} {acc : List UInt8} (h : bst B w0 acc w) (hl : acc.length + s.length ≤ 140737488355328) :
    Calls Tryd.prog 70 #[.pointer (some ⟨B, 0, none⟩), (.string ⟨(s).toArray⟩)] w fun e w' => e = .returned (.tuple #[.int .i64 (s.length : Nat), .nilIface]) ∧ bst B w0 (acc ++ s) w' := by
  have hsz : (⟨s.toArray⟩ : ByteArray).size = s.length := by simp [ByteArray.size]
  have hbl : (Lib.byteCells acc).length = acc.length := by simp [Lib.byteCells]
  refine (Tryd.Builder_WriteString B B (Lib.byteCells acc) ⟨s.toArray⟩ w h.1 (by rw [hsz, hbl]; exact hl) h.2.2).mono ?_
  rintro e w' ⟨rfl, hb, hbel⟩
  refine ⟨by rw [hsz], .inr ?_, h.2.1.trans hbel, Nat.le_trans h.2.2 hbel.size⟩
  have e1 : Lib.byteCells (acc ++ s) = Lib.byteCells acc ++ Lib.strCells ⟨s.toArray⟩ := by simp [Lib.byteCells, Lib.strCells]
  rw [e1]
  exact hb
/-- .. and when its string has been read. -/
def bstF (B : Nat) (w0 : World) (acc : List UInt8) (w : World) : Prop := Lib.IsBuilderF 126 5 B B (Lib.byteCells acc) w ∧ Below B w0 w ∧ B ≤ w.heap.size
theorem bst_F {B : Nat} {w0 w : World} {acc : List UInt8} (h : bst B w0 acc w) : bstF B w0 acc w := ⟨Lib.IsBuilderF.of h.1, h.2⟩
theorem bstring {B : Nat} {w0 w : World} {acc : List UInt8} (h : bstF B w0 acc w) :
    Calls Tryd.prog 71 #[.pointer (some ⟨B, 0, none⟩)] w fun e w' => e = .returned (.string ⟨(acc).toArray⟩) ∧ bstF B w0 acc w' := by
  refine (Tryd.Builder_String_any_k B B acc w h.1 h.2.2).mono ?_
  rintro e w' ⟨rfl, hk, hb, _⟩
  exact ⟨rfl, hk, h.2.1.trans hb, Nat.le_trans h.2.2 hb.size⟩
theorem class_const' {C : World → Prop} {w : World} (h : C w) (p : Prop) : (∀ w, C w → p) = p := propext ⟨fun k => k w h, fun k _ _ => k⟩
def strLen' : Value → Nat
  | .string s => s.size
  | _ => 0
set_option maxRecDepth 100000 in
set_option maxHeartbeats 8000000 in
theorem takeText_below (w : World) (m : Int) (hm : w.cell? ⟨1, 0, none⟩ = some (.int .i64 m)) (l : List UInt8) (hl : l.length ≤ 1073741824) :
    Calls Tryd.prog 37 #[(.string ⟨(l).toArray⟩)] w fun e w' => e = .returned (takeTV (takeT l)) ∧ Below w.heap.size w w' := by
  obtain ⟨p, hp⟩ : ∃ p, takeT l = p := ⟨_, rfl⟩
  rw [hp]
  have HPP := Box.mk hp
  clear hp
  have hB0 := heap_pos hm
  have HM := Box.mk hm
  clear hm
  have hstart : bst w.heap.size w [] (w.alloc (.cells #[.pointer none, .slice none 0 0] 126)) := ⟨Lib.fresh_isBuilder _ _ w, (Below.refl _ _).alloc (Nat.le_refl _) _, by simp⟩
  obtain ⟨B, hB⟩ : ∃ B, w.heap.size = B := ⟨_, rfl⟩
  rw [hB] at hstart hB0 ⊢
  have HS := Box.mk hstart
  clear hstart
  go_enter Tryd.func37, Tryd.ntmps37
  go_wp2_with fail
  go_loopw [0] (fun v0 wr => ∃ (s acc : List UInt8), v0 = (.string ⟨(s).toArray⟩) ∧ s.length + acc.length ≤ l.length ∧ Box (pre acc (takeT s) = p) ∧ bst B w acc wr) (fun v0 _ => strLen' v0)
  case atStart => exact ⟨l, [], rfl, by simp, ⟨by rw [pre_nil]; exact HPP.out⟩, HS.out⟩
  case round =>
    obtain ⟨s, acc, rfl, hlen, HEQ, hb⟩ := hrel
    rcases cut0 s with ⟨h0, hc⟩ | ⟨h, r, hs, h0, hc⟩
    · have HRES : Box (p = none) := ⟨by rw [← HEQ.out, takeT_no s h0]; rfl⟩
      have HC : Box ((Lib.cut s [0]).1 = s ∧ (Lib.cut s [0]).2.1 = [] ∧ (Lib.cut s [0]).2.2 = false) := ⟨by rw [hc]; exact ⟨rfl, rfl, rfl⟩⟩
      clear hc h0
      go_wp2_with (first
        | (go_at_call 69; go_must (refine (bcut s (by omega) hb hB0 HM.out).mono ?_); clear hb; rintro e w1 ⟨rfl, hb⟩; rw [HC.out.1, HC.out.2.1, HC.out.2.2])
        | (go_at_call 70; go_must (refine (bwrite s hb (by omega)).mono ?_); clear hb; rintro e w1 ⟨rfl, hb⟩))
      (try simp only [Exit.inBlock, Exit.then])
      refine bodyPost_ret (res_tmp3 rfl _ _ _) rfl ?_
      rw [HRES.out]
      exact ⟨rfl, hb.2.1⟩
    · have HC : Box ((Lib.cut s [0]).1 = h ∧ (Lib.cut s [0]).2.1 = r ∧ (Lib.cut s [0]).2.2 = true) := ⟨by rw [hc]; exact ⟨rfl, rfl, rfl⟩⟩
      have hl2 : s.length = h.length + r.length + 1 := by rw [hs]; simp; omega
      have HT : Box (takeT s = pre h (takeT (0 :: r))) := ⟨by rw [hs]; exact takeT_head _ h h0⟩
      have hsl : s.length ≤ 1073741824 := by omega
      have HSL := Box.mk hsl
      have hacc : acc.length + h.length ≤ 1073741824 := by omega
      have hbc : ∀ w1, bst B w acc w1 → Calls Tryd.prog 69 #[(.string ⟨(s).toArray⟩), .string ⟨#[0]⟩] w1 (cutPost s B w acc) := fun w1 hb => bcut s hsl hb hB0 HM.out
      have HBC := Box.mk hbc
      have HL2 := Box.mk hl2
      clear hc h0 hs hl2 hsl hbc
      rcases r with _ | ⟨d, r⟩
      · have HRES : Box (p = none) := ⟨by rw [← HEQ.out, HT.out]; rfl⟩
        go_wp2_with (first
          | (go_at_call 69; go_must (refine (HBC.out _ hb).mono ?_); clear hb; rintro e w1 ⟨rfl, hb⟩; rw [HC.out.1, HC.out.2.1, HC.out.2.2])
          | (go_at_call 70; go_must (refine (bwrite h hb (by omega)).mono ?_); clear hb; rintro e w1 ⟨rfl, hb⟩))
        (try simp only [Exit.inBlock, Exit.then])
        refine bodyPost_ret (res_tmp3 rfl _ _ _) rfl ?_
        rw [HRES.out]
        exact ⟨rfl, hb.2.1⟩
      · have hget : (⟨(d :: r).toArray⟩ : ByteArray)[0]'(by simp [ByteArray.size]) = d := rfl
        have hle1 : (1 : Int) ≤ (r.length : Int) + 1 := by omega
        have hk1 : (⟨#[0, 1]⟩ : ByteArray)[1]'(by decide) = 1 := rfl
        have hk2 : (⟨#[0, 255]⟩ : ByteArray)[1]'(by decide) = 255 := rfl
        have hHL : Box (h.length + (r.length + 1) + 1 + acc.length ≤ l.length) := ⟨by have := HL2.out; simp only [List.length_cons] at this; omega⟩
        go_wp2_with (first
          | (go_at_call 69; go_must (refine (HBC.out _ hb).mono ?_); clear hb; rintro e w1 ⟨rfl, hb⟩; rw [HC.out.1, HC.out.2.1, HC.out.2.2])
          | (go_at_call 70; go_must (refine (bwrite h hb (by omega)).mono ?_); clear hb; rintro e w1 ⟨rfl, hb⟩))
        have HNEXT : Box (pre acc (takeT s) = pre (acc ++ h) (takeT (0 :: d :: r))) := ⟨by rw [HT.out, pre_pre]⟩
        by_cases h1 : d = 1
        · have hy : ((d.toNat : Int) == 1) = true := by rw [h1]; rfl
          have HRES : Box (p = some (acc ++ h, r)) := ⟨by rw [← HEQ.out, HNEXT.out, h1, takeT_01]; simp [pre]⟩
          have HD := Box.mk h1
          clear h1
          refine wp_region_quiet (C := bst B w (acc ++ h)) (by kernel_rfl) (by kernel_rfl) (bst_drew hb 1) ?_
          have hq := class_const' hb
          repeat (first
            | (refine wpQuiet_step (fun K hK => ?_); go_simp; with_reducible refine hK _ ?_; clear hK K))
          refine wpQuiet_nil ?_
          intro w8 hb8
          clear hb hq
          go_wp2_with fail
          have hbF := bst_F hb8
          have oS : Box (∀ w5, bstF B w (acc ++ h) w5 → Calls Tryd.prog 71 #[.pointer (some ⟨B, 0, none⟩)] w5 fun e w' => e = .returned (.string ⟨(acc ++ h).toArray⟩) ∧ bstF B w (acc ++ h) w') := ⟨fun w5 h5 => bstring h5⟩
          refine wp_region_quiet (C := bstF B w (acc ++ h)) (by kernel_rfl) (by kernel_rfl) (⟨hbF.1, hbF.2.1.drew, hbF.2.2⟩) ?_
          have hq := class_const' hbF
          repeat (first
            | (refine wpQuiet_step (fun K hK => ?_); go_simp; first
                | (with_reducible refine hK _ ?_; clear hK K)
                | (apply Exists.intro; refine ⟨fun w5 h5 => ?_, hK _ ?_⟩; (first | with_reducible exact oS.out w5 h5); clear hK K)))
          refine wpQuiet_nil ?_
          intro w9 hb9
          clear hb8 hbF hq
          go_wp2_with fail
          (try simp only [Exit.inBlock, Exit.then])
          refine bodyPost_ret (res_tmp3 rfl _ _ _) rfl ?_
          rw [HRES.out]
          refine ⟨?_, hb9.2.1⟩
          have e2 := str_extract (d :: r) 1 (d :: r).length
          rw [List.take_length] at e2
          show Ending.returned (.tuple #[_, .string (ByteArray.extract ⟨(d :: r).toArray⟩ 1 (d :: r).length), _]) = _
          rw [e2]
          rfl
        · have hy : ((d.toNat : Int) == 1) = false := by
            have : d.toNat ≠ 1 := fun e => h1 (UInt8.toNat_inj.1 e)
            simp; omega
          have HD := Box.mk h1
          clear h1
          refine wp_region_quiet (C := bst B w (acc ++ h)) (by kernel_rfl) (by kernel_rfl) (bst_drew hb 1) ?_
          have hq := class_const' hb
          repeat (first
            | (refine wpQuiet_step (fun K hK => ?_); go_simp; with_reducible refine hK _ ?_; clear hK K))
          refine wpQuiet_nil ?_
          intro w8 hb8
          clear hb hq
          go_wp2_with fail
          by_cases h2 : d = 255
          · have hx : ((d.toNat : Int) != 255) = false := by rw [h2]; rfl
            have HD2 := Box.mk h2
            clear h2
            refine wp_region_quiet (C := bst B w (acc ++ h)) (by kernel_rfl) (by kernel_rfl) (bst_drew hb8 1) ?_
            have hq := class_const' hb8
            repeat (first
              | (refine wpQuiet_step (fun K hK => ?_); go_simp; with_reducible refine hK _ ?_; clear hK K))
            refine wpQuiet_nil ?_
            intro w9 hb9
            clear hb8 hq
            have hacc2 : (acc ++ h).length + ([0] : List UInt8).length ≤ 140737488355328 := by simp; omega
            go_wp2_with (first
              | (go_at_call 70; go_must (refine (bwrite [0] hb9 hacc2).mono ?_); clear hb9; rintro e w1 ⟨rfl, hb9⟩))
            have e2 := str_extract (d :: r) 1 (d :: r).length
            rw [List.take_length] at e2
            refine ⟨⟨r, acc ++ h ++ [0], ?_, by have := hHL.out; simp; omega, ⟨?_⟩, hb9⟩, ?_⟩
            · exact congrArg Value.string e2
            · rw [← HEQ.out, HNEXT.out, HD2.out, takeT_00, pre_pre]
            · show ByteArray.size _ < ByteArray.size _
              have := HL2.out
              simp [ByteArray.size]
              simp at this
              omega
          · have hx : ((d.toNat : Int) != 255) = true := by
              have : d.toNat ≠ 255 := fun e => h2 (UInt8.toNat_inj.1 e)
              simp; omega
            have HRES : Box (p = none) := ⟨by rw [← HEQ.out, HNEXT.out, takeT_0x HD.out h2]; rfl⟩
            clear h2
            refine wp_region_quiet (C := bst B w (acc ++ h)) (by kernel_rfl) (by kernel_rfl) (bst_drew hb8 1) ?_
            have hq := class_const' hb8
            repeat (first
              | (refine wpQuiet_step (fun K hK => ?_); go_simp; with_reducible refine hK _ ?_; clear hK K))
            refine wpQuiet_nil ?_
            intro w9 hb9
            clear hb8 hq
            go_wp2_with fail
            (try simp only [Exit.inBlock, Exit.then])
            refine bodyPost_ret (res_tmp3 rfl _ _ _) rfl ?_
            rw [HRES.out]
            exact ⟨rfl, hb9.2.1⟩
theorem takeText_spec (W w : World) (L : List HP) (hs : Sat W w L) (hold : old W ∈ L) (hm : maxLenIs W) (l : List UInt8) (hl : l.length ≤ 1073741824) :
    Calls Tryd.prog 37 #[(.string ⟨(l).toArray⟩)] w (takeTPost (takeT l) W L) := by
  obtain ⟨m, hm⟩ := hm
  refine (takeText_below w m (maxLen_old hs hold hm) l hl).mono ?_
  rintro e w' ⟨he, hb⟩
  exact ⟨he, hs.below hb⟩
end Go.Proofs.YthjnefpnnifjiaaDoor
