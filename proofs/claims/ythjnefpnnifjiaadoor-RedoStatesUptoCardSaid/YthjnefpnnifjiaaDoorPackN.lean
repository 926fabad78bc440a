/- TakeNum at long strings; what is taken, as tuples; the example of the laws of layer 1. -/
import Derived.Test.YthjnefpnnifjiaaDoorPackT
set_option linter.unusedVariables false
set_option linter.unusedSimpArgs false
namespace Go.Proofs.YthjnefpnnifjiaaDoor
open Go.RowKit
def tnA (l : List UInt8) : Nat := if l.length < 4 then 0 else num (l.take 4)
def tnB (l : List UInt8) : List UInt8 := if l.length < 4 then [] else l.drop 4
def tnC (l : List UInt8) : Nat := if l.length < 4 then 2 else 0
def tnV (l : List UInt8) : Value := .tuple #[.int .u32 (tnA l : Nat), (.string ⟨(tnB l).toArray⟩), .int .i64 (tnC l : Nat)]
def tiA (l : List UInt8) : Int := if l.length < 8 then 0 else takeI l
def tiB (l : List UInt8) : List UInt8 := if l.length < 8 then [] else l.drop 8
def tiC (l : List UInt8) : Nat := if l.length < 8 then 2 else 0
theorem takeIV_eq (l : List UInt8) : takeIV l = .tuple #[.int .i64 (tiA l), (.string ⟨(tiB l).toArray⟩), .int .i64 (tiC l : Nat)] := by
  unfold takeIV tiA tiB tiC
  split <;> rfl
def ttA (o : Option (List UInt8 × List UInt8)) : List UInt8 := match o with | some x => x.1 | none => []
def ttB (o : Option (List UInt8 × List UInt8)) : List UInt8 := match o with | some x => x.2 | none => []
def ttC (o : Option (List UInt8 × List UInt8)) : Nat := match o with | some x => 0 | none => 2
theorem takeTV_eq (o : Option (List UInt8 × List UInt8)) : takeTV o = .tuple #[(.string ⟨(ttA o).toArray⟩), (.string ⟨(ttB o).toArray⟩), .int .i64 (ttC o : Nat)] := by cases o <;> rfl
theorem tn_of (l : List UInt8) : (if l.length < 4 then Value.tuple #[.int .u32 0, (.string ⟨(([] : List UInt8)).toArray⟩), .int .i64 2] else .tuple #[.int .u32 (num (l.take 4) : Nat), (.string ⟨(l.drop 4).toArray⟩), .int .i64 0]) = tnV l := by
  unfold tnV tnA tnB tnC
  split <;> rfl
set_option maxRecDepth 100000 in
set_option maxHeartbeats 400000 in
theorem takeNumL_spec (W w : World) (L : List HP) (hs : Sat W w L) (l : List UInt8) (hl : l.length ≤ 1073741824) :
    Calls Tryd.prog 63 #[(.string ⟨(l).toArray⟩)] w fun e w' => e = .returned (tnV l) ∧ Sat W w' L := by
  rw [← tn_of]
  by_cases h4 : l.length < 4
  · have h4I : (l.length : Int) < 4 := by omega
    rw [if_pos h4]
    go_enter Tryd.func63, Tryd.ntmps63
    go_wp2_with fail
    (try simp only [Exit.inBlock, Exit.then])
    refine bodyPost_ret (res_tmp3 rfl _ _ _) rfl ?_
    exact ⟨rfl, hs⟩
  · have h4I : ¬ (l.length : Int) < 4 := by omega
    rw [if_neg h4]
    go_enter Tryd.func63, Tryd.ntmps63
    go_wp2_with fail
    obtain ⟨M, hM, hs⟩ : ∃ M, M = _ ∧ Sat W _ M := ⟨_, rfl, hs⟩
    have oL : ∀ w, Sat W w M → Calls Tryd.prog 67 #[.string (ByteArray.extract ⟨l.toArray⟩ 0 4)] w fun e w' => e = .returned (.int .u64 (num (l.take 4) : Nat)) ∧ Sat W w' M := by rw [str_extract]; exact fun w h => low_spec W w _ h (l.take 4) (by simp; omega)
    have oL_ := Box.mk oL
    clear oL
    have oL := oL_
    clear oL_
    have hM_ := Box.mk hM
    clear hM
    have hM := hM_
    clear hM_
    refine wp_region_quiet (C := fun w' => Sat W w' M) (by kernel_rfl) (by kernel_rfl) hs.drew ?_
    have hq := sat_const hs
    repeat (first
      | (refine wpQuiet_step (fun K hK => ?_); go_simp; first
          | (with_reducible refine hK _ ?_; clear hK K)
          | (apply Exists.intro; refine ⟨fun w5 h5 => ?_, hK _ ?_⟩; (first | with_reducible exact oL.out w5 h5); clear hK K)))
    refine wpQuiet_nil ?_
    intro w8 hs8
    clear hs
    rw [hM.out] at hs8
    have hs := hs8
    clear hs8
    go_wp2_with fail
    (try simp only [Exit.inBlock, Exit.then])
    refine bodyPost_ret (res_tmp3 rfl _ _ _) rfl ?_
    have hn : num (l.take 4) < 256 ^ 4 := num_take_lt l 4 (by omega)
    have e1 := w32 (n := (num (l.take 4) : Nat)) (by omega) (by omega)
    have e2 := str_extract l 4 l.length
    rw [List.take_length] at e2
    refine ⟨?_, hM.out ▸ hs⟩
    show Ending.returned (.tuple #[.int .u32 (IntKind.u32.wrap (num (l.take 4) : Nat)), .string (ByteArray.extract ⟨l.toArray⟩ 4 l.length), .int .i64 0]) = _
    rw [e1, e2]
set_option maxRecDepth 100000 in
set_option maxHeartbeats 400000 in
theorem rtakeNumL_spec (W w : World) (L : List HP) (hs : Sat W w L) (l : List UInt8) (hl : l.length ≤ 1073741824) :
    Calls Tryd.prog 41 #[(.string ⟨(l).toArray⟩)] w fun e w' => e = .returned (tnV l) ∧ Sat W w' L := by
  rw [← tn_of]
  by_cases h4 : l.length < 4
  · have h4I : (l.length : Int) < 4 := by omega
    rw [if_pos h4]
    go_enter Tryd.func41, Tryd.ntmps41
    go_wp2_with fail
    (try simp only [Exit.inBlock, Exit.then])
    refine bodyPost_ret (res_tmp3 rfl _ _ _) rfl ?_
    exact ⟨rfl, hs⟩
  · have h4I : ¬ (l.length : Int) < 4 := by omega
    rw [if_neg h4]
    go_enter Tryd.func41, Tryd.ntmps41
    go_wp2_with fail
    obtain ⟨M, hM, hs⟩ : ∃ M, M = _ ∧ Sat W _ M := ⟨_, rfl, hs⟩
    have oL : ∀ w, Sat W w M → Calls Tryd.prog 72 #[.string (ByteArray.extract ⟨l.toArray⟩ 0 4)] w fun e w' => e = .returned (.int .u64 (num (l.take 4) : Nat)) ∧ Sat W w' M := by rw [str_extract]; exact fun w h => rnumber_spec W w _ h (l.take 4) (by simp; omega)
    have oL_ := Box.mk oL
    clear oL
    have oL := oL_
    clear oL_
    have hM_ := Box.mk hM
    clear hM
    have hM := hM_
    clear hM_
    refine wp_region_quiet (C := fun w' => Sat W w' M) (by kernel_rfl) (by kernel_rfl) hs.drew ?_
    have hq := sat_const hs
    repeat (first
      | (refine wpQuiet_step (fun K hK => ?_); go_simp; first
          | (with_reducible refine hK _ ?_; clear hK K)
          | (apply Exists.intro; refine ⟨fun w5 h5 => ?_, hK _ ?_⟩; (first | with_reducible exact oL.out w5 h5); clear hK K)))
    refine wpQuiet_nil ?_
    intro w8 hs8
    clear hs
    rw [hM.out] at hs8
    have hs := hs8
    clear hs8
    go_wp2_with fail
    (try simp only [Exit.inBlock, Exit.then])
    refine bodyPost_ret (res_tmp3 rfl _ _ _) rfl ?_
    have hn : num (l.take 4) < 256 ^ 4 := num_take_lt l 4 (by omega)
    have e1 := w32 (n := (num (l.take 4) : Nat)) (by omega) (by omega)
    have e2 := str_extract l 4 l.length
    rw [List.take_length] at e2
    refine ⟨?_, hM.out ▸ hs⟩
    show Ending.returned (.tuple #[.int .u32 (IntKind.u32.wrap (num (l.take 4) : Nat)), .string (ByteArray.extract ⟨l.toArray⟩ 4 l.length), .int .i64 0]) = _
    rw [e1, e2]
theorem less_str (l m : List UInt8) : Op.bytesLess (ByteArray.toList ⟨l.toArray⟩) (ByteArray.toList ⟨m.toArray⟩) = Op.bytesLess l m := by rw [Lib.toList_data, Lib.toList_data]
theorem str_app' (l m k : List UInt8) (h : l ++ m = k) : (⟨l.toArray⟩ : ByteArray) ++ (⟨m.toArray⟩ : ByteArray) = ⟨k.toArray⟩ := by rw [str_app, h]
end Go.Proofs.YthjnefpnnifjiaaDoor
