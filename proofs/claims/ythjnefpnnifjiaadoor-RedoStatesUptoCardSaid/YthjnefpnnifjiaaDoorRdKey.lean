/- The contracts of redo.key, Put and PutState. -/
import Derived.Test.YthjnefpnnifjiaaDoorRdP
import Derived.Test.YthjnefpnnifjiaaDoorRbB
set_option linter.unusedVariables false
set_option linter.unusedSimpArgs false
namespace Go.Proofs.YthjnefpnnifjiaaDoor
open Go.RowKit
def intsC (l : List Int) : List Value := l.map fun n => .int .i64 n
theorem intsC_one (l : List Int) : ∀ v ∈ intsC l, v.oneCell' = true := fun v hv => by
  obtain ⟨n, _, rfl⟩ := List.mem_map.1 hv; rfl
def kC (k : RKey) : List Value := [.int .i64 k.kind, .int .i64 k.a, .int .i64 k.b]
def wC (x : RWr) : List Value := [.int .i64 x.k.kind, .int .i64 x.k.a, .int .i64 x.k.b, (.string ⟨(x.v).toArray⟩)]
def cC (x : RCl) : List Value := [.int .i64 x.k.kind, .int .i64 x.k.a, .int .i64 x.k.b, .int .i64 x.ts, (.string ⟨(x.v).toArray⟩)]
def wsC (l : List RWr) : List Value := l.flatMap wC
def csC (l : List RCl) : List Value := l.flatMap cC
@[simp] theorem wC_length (x : RWr) : (wC x).length = 4 := rfl
@[simp] theorem cC_length (x : RCl) : (cC x).length = 5 := rfl
theorem flat_get {α : Type} (f : α → List Value) (n : Nat) (hf : ∀ x, (f x).length = n) (l : List α) (i : Nat) (h : i < l.length) (j : Nat) (hj : j < n) : (l.flatMap f)[i * n + j]? = (f l[i])[j]? := by
  induction l generalizing i with
  | nil => simp at h
  | cons x l ih =>
    simp only [List.flatMap_cons]
    cases i with
    | zero => rw [List.getElem?_append_left (by rw [hf]; omega)]; simp
    | succ i =>
      rw [List.getElem?_append_right (by rw [hf, Nat.succ_mul]; omega)]
      have e : (i + 1) * n + j - (f x).length = i * n + j := by rw [hf, Nat.succ_mul]; omega
      rw [e]
      exact ih i (by simpa using h)
theorem flat_part {α : Type} (f : α → List Value) (n : Nat) (hf : ∀ x, (f x).length = n) (l : List α) (i : Nat) (h : i < l.length) : ∀ j v, (f l[i])[j]? = some v → (l.flatMap f)[i * n + j]? = some v := fun j v hv => by
  have hj : j < n := by have := (List.getElem?_eq_some_iff.1 hv).1; rw [hf] at this; exact this
  rw [flat_get f n hf l i h j hj]; exact hv
theorem wsC_len (l : List RWr) : (wsC l).length = l.length * 4 := by
  unfold wsC
  induction l with
  | nil => rfl
  | cons x l ih => simp only [List.flatMap_cons, List.length_append, wC_length, List.length_cons] at ih ⊢; omega
theorem csC_len (l : List RCl) : (csC l).length = l.length * 5 := by
  unfold csC
  induction l with
  | nil => rfl
  | cons x l ih => simp only [List.flatMap_cons, List.length_append, cC_length, List.length_cons] at ih ⊢; omega
theorem wrap_u32n (n : Int) : IntKind.u32.wrap n = ((u32n n : Nat) : Int) := by rw [IntKind.wrap_u32]; unfold u32n; omega
theorem info_intR : (Tryd.prog.info? 3).map (fun i => (i.zero, i.size, i.bytes)) = some (some (.int .i64 0), 1, 8) := by kernel_rfl
theorem intsC_get (l : List Int) (i : Nat) (h : i < l.length) : (intsC l)[i]? = some (.int .i64 l[i]) := by simp [intsC, h]
def rangeS (b o : Nat) (cs : List Value) (w : World) : Prop := w.rangeAt b o cs
set_option maxRecDepth 100000 in
set_option maxHeartbeats 4000000 in
theorem rdkey_spec (W w : World) (M : List HP) (b : Nat) (l : List UInt8) (hs : Sat W w (bufH W b l :: M)) (hM : Q8 W M) (k : RKey) (hl : l.length ≤ 100000000000000) :
    Calls Tryd.prog 48 #[.pointer (some ⟨b, 0, none⟩), .agg (kC k).toArray] w fun e w' => e = .returned (.tuple #[]) ∧ Sat W w' (bufH W b (l ++ encK k) :: M) := by
  go_enter Tryd.func48, Tryd.ntmps48
  go_wp2_with (first
    | (guard_target = wpList _ _ _ (⟨some 3, .box _ _, _, _, _, _⟩ :: _) _ _; refine wpl (o := ⟨some 3, .box _ _, _, _, _, _⟩) rfl fun K hK => ?_; go_must (refine op_box hs rfl _ rfl (kC k) rfl fun b3 w1 h => hK _ _ ?_); clear hs hK K; have hs := h; clear h)
    | (guard_target = wpList _ _ _ (⟨some 7, .load _ _, _, _, _, _⟩ :: _) _ _; refine wpl (o := ⟨some 7, .load _ _, _, _, _, _⟩) rfl fun K hK => op_load rfl (ad := ⟨b3, 0, none⟩) rfl (by kernel_rfl) (hs.cell (l := kC k) (t := 57) (by (try dsimp only [List.set]); repeat (first | with_reducible exact List.mem_cons_self | with_reducible apply List.mem_cons_of_mem)) rfl) (hK _ _ ?_); clear hK K)
    | (guard_target = wpList _ _ _ (⟨some 9, .load _ _, _, _, _, _⟩ :: _) _ _; refine wpl (o := ⟨some 9, .load _ _, _, _, _, _⟩) rfl fun K hK => op_load rfl (ad := ⟨b3, 1, none⟩) rfl (by kernel_rfl) (hs.cell (l := kC k) (t := 57) (by (try dsimp only [List.set]); repeat (first | with_reducible exact List.mem_cons_self | with_reducible apply List.mem_cons_of_mem)) rfl) (hK _ _ ?_); clear hK K)
    | (guard_target = wpList _ _ _ (⟨some 11, .load _ _, _, _, _, _⟩ :: _) _ _; refine wpl (o := ⟨some 11, .load _ _, _, _, _, _⟩) rfl fun K hK => op_load rfl (ad := ⟨b3, 2, none⟩) rfl (by kernel_rfl) (hs.cell (l := kC k) (t := 57) (by (try dsimp only [List.set]); repeat (first | with_reducible exact List.mem_cons_self | with_reducible apply List.mem_cons_of_mem)) rfl) (hK _ _ ?_); clear hK K)
    | (guard_target = wpList _ _ _ (⟨some 12, .buildSlice _ _ _, _, _, _, _⟩ :: _) _ _; refine wpl (o := ⟨some 12, .buildSlice _ _ _, _, _, _, _⟩) rfl fun K hK => ?_; go_must (refine op_lit1 hs rfl Tryd.underlying134 info_intR rfl (intsC k.ints) (by omega) rfl (intsC_one _) (by first | rfl | (simp [intsC, RKey.ints, Act.eval, Act.put]; done) | (simp [intsC, RKey.ints, Act.eval, Act.put]; rfl)) fun b12 w1 h => hK _ _ ?_); clear hs hK K; have hs := h; clear h))
  go_loopw [14] (fun v14 wr => ∃ i : Nat, i ≤ 3 ∧ v14 = .int .i64 (i : Nat) ∧ Sat W wr (bufH W b (l ++ encI (k.ints.take i)) :: row b12 (intsC k.ints) 3 :: M)) (fun v14 _ => 3 - (intOf v14).toNat)
  case atStart => exact ⟨0, by omega, rfl, by simp only [List.take_zero, encI, List.map_nil, List.flatten_nil, List.append_nil]; exact hs.pack (by repeat (first | with_reducible exact Pack.refl | with_reducible exact Pack.nil | with_reducible refine Pack.cons (by repeat (first | with_reducible exact Pick.here | with_reducible apply Pick.there)) ?_ | with_reducible apply Pack.drop))⟩
  case round =>
    clear hs
    obtain ⟨i, hi, rfl, hs⟩ := hrel
    have h3 : k.ints.length = 3 := rfl
    by_cases hlt : i < 3
    · have hltI : (i : Int) < 3 := by omega
      have hil : i < k.ints.length := by omega
      have hg := intsC_get k.ints i hil
      have hsn := Box.mk (encI_snoc k.ints i hil)
      have hlen := encI_len (k.ints.take i)
      have hlt4 : (k.ints.take i).length ≤ 3 := by simp; omega
      generalize k.ints[i] = n at hg hsn
      have hwn := wrap_u32n n
      have hu := u32n_lt n
      obtain ⟨u, hu2⟩ : ∃ u, u32n n = u := ⟨_, rfl⟩
      rw [hu2] at hwn hu hsn
      have k17 : wr.cell? ⟨b12, i, none⟩ = some (.int .i64 n) := hs.cell (l := intsC k.ints) (t := 3) (by (try dsimp only [List.set]); repeat (first | with_reducible exact List.mem_cons_self | with_reducible apply List.mem_cons_of_mem)) hg
      clear hg hu2
      obtain ⟨acc, hacc⟩ : ∃ acc, l ++ encI (k.ints.take i) = acc := ⟨_, rfl⟩
      have hal : acc.length ≤ 100000000000012 := by rw [← hacc]; simp; omega
      have HAC := Box.mk hacc
      rw [hacc] at hs
      have hbe : Box ((be 4 u).length = 4) := ⟨be_length 4 u⟩
      clear hacc hlen hlt4
      go_wp2_with (first
        | (guard_target = wpList _ _ _ (⟨some 17, .load _ _, _, _, _, _⟩ :: _) _ _; refine wpl (o := ⟨some 17, .load _ _, _, _, _, _⟩) rfl fun K hK => op_load rfl (ad := ⟨b12, i, none⟩) rfl (by kernel_rfl) k17 (hK _ _ ?_); clear hK K)
        | (go_at_call 47; go_must (refine (num_spec W _ _ hs u hu).mono ?_); clear hs; rintro e w1 ⟨rfl, hs⟩)
        | (go_at_call 45; go_must (refine (bws_spec W _ _ b acc hs (.row (by decide) hM) (be 4 u) (by rw [hbe.out]; omega)).mono ?_); clear hs; rintro e w1 ⟨rfl, hs⟩))
      refine ⟨⟨i + 1, by omega, by go_num, ?_⟩, by simp only [intOf]; omega⟩
      rw [hsn.out, ← List.append_assoc, HAC.out]
      exact hs
    · have hltI : ¬ (i : Int) < 3 := by omega
      have e : encI (k.ints.take i) = encK k := by rw [List.take_of_length_le (by omega)]; rfl
      rw [e] at hs
      go_wp2_with fail
      refine bodyPost_end (results_none rfl _ _ _) rfl ?_
      exact ⟨rfl, hs.pack (by repeat (first | with_reducible exact Pack.refl | with_reducible exact Pack.nil | with_reducible refine Pack.cons (by repeat (first | with_reducible exact Pick.here | with_reducible apply Pick.there)) ?_ | with_reducible apply Pack.drop))⟩
end Go.Proofs.YthjnefpnnifjiaaDoor
