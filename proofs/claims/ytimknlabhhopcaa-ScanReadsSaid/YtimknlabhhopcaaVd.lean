/- The disk in the heap; Len, Pending and New. -/
import Derived.Test.YtimknlabhhopcaaChecked
import Derived.Test.YtimknlabhhopcaaVdP
import Derived.Test.YtimknlabhhopcaaStr
import Derived.Test.YtimknlabhhopcaaDir
import Derived.WalkKit
import Derived.ProofKit
set_option linter.unusedVariables false
set_option linter.unusedSimpArgs false
namespace Go.Proofs.Ytimknlabhhopcaa
open Go.RowKit
def secCells (s : List (List UInt8)) : List Value := s.flatMap u8s
def wCells (x : Nat × List UInt8) : List Value := .int .i64 x.1 :: u8s x.2
def rowCells (r : List (Nat × List UInt8)) : List Value := r.flatMap wCells
def diskL (b : Nat) (D : Dk) (x : Value × Value) : List HP :=
  [row b [x.1, x.2] 103, own x.1 106 D.secs.length 64 (secCells D.secs), own x.2 108 D.row.length 65 (rowCells D.row)]
def disk (b : Nat) (D : Dk) : HP := fun F => D.Ok ∧ ∃ x, st (diskL b D x) F
theorem Sat.disk_open {W w : World} {L : List HP} {b : Nat} {D : Dk} (h : Sat W w (disk b D :: L)) :
    D.Ok ∧ ∃ vs vr, Sat W w (row b [vs, vr] 103 :: own vs 106 D.secs.length 64 (secCells D.secs) :: own vr 108 D.row.length 65 (rowCells D.row) :: L) := by
  refine ⟨h.fact m0 fun F hF => hF.1, ?_⟩
  obtain ⟨x, _, hx⟩ := h.open_ (α := Value × Value) (p := fun _ => True) (L' := diskL b D) (fun F hF => by obtain ⟨_, x, hx⟩ := hF; exact ⟨x, trivial, hx⟩)
  exact ⟨x.1, x.2, hx⟩
theorem Sat.disk_shut {W w : World} {L : List HP} {b : Nat} {D : Dk} {vs vr : Value} (ok : D.Ok)
    (h : Sat W w (row b [vs, vr] 103 :: own vs 106 D.secs.length 64 (secCells D.secs) :: own vr 108 D.row.length 65 (rowCells D.row) :: L)) : Sat W w (disk b D :: L) :=
  Sat.shut (L' := diskL b D (vs, vr)) h fun F hF => ⟨ok, _, hF⟩
theorem Sat.rot3 {W w : World} {L : List HP} {A B C D : HP} (h : Sat W w (A :: B :: C :: D :: L)) : Sat W w (B :: C :: D :: A :: L) :=
  h.perm ((List.Perm.swap B A _).trans (((List.Perm.swap C A _).cons B).trans (((List.Perm.swap D A _).cons C).cons B)))
theorem Sat.swap {W w : World} {L : List HP} {A B : HP} (h : Sat W w (A :: B :: L)) : Sat W w (B :: A :: L) := h.perm (List.Perm.swap B A _)
theorem Sat.pull2 {W w : World} {L : List HP} {A B C : HP} (h : Sat W w (A :: B :: C :: L)) : Sat W w (C :: A :: B :: L) :=
  h.perm (((List.Perm.swap C B _).cons A).trans (List.Perm.swap C A _))
theorem Sat.disk_shut1 {W w : World} {L : List HP} {b : Nat} {D : Dk} {vs vr : Value} {A : HP} (ok : D.Ok)
    (h : Sat W w (A :: row b [vs, vr] 103 :: own vs 106 D.secs.length 64 (secCells D.secs) :: own vr 108 D.row.length 65 (rowCells D.row) :: L)) : Sat W w (A :: disk b D :: L) :=
  (Sat.disk_shut ok h.rot3).swap
set_option maxRecDepth 100000 in
set_option maxHeartbeats 400000 in
theorem len_spec (W w : World) (L : List HP) (b : Nat) (D : Dk) (hs : Sat W w (disk b D :: L)) :
    Calls Try.prog 47 #[.pointer (some ⟨b, 0, none⟩)] w fun e w' => e = .returned (.int .i64 D.secs.length) ∧ Sat W w' (disk b D :: L) := by
  obtain ⟨ok, vs, vr, hs⟩ := hs.disk_open
  obtain ⟨A, cap, rfl, h1, h2⟩ := own_slice hs (i := 1) rfl
  go_enter Try.func47, Try.ntmps47
  go_wp2_with (first
    | (guard_target = wpList _ _ _ (⟨some 8, .load _ _, _, _, _, _⟩ :: _) _ _; refine wpl (o := ⟨some 8, .load _ _, _, _, _, _⟩) rfl fun K hK => op_load rfl (ad := ⟨b, 0, none⟩) rfl (by kernel_rfl) (hs.cell m0 rfl) (hK _ _ ?_); clear hK K))
  go_ret
  exact ⟨rfl, hs.disk_shut ok⟩
set_option maxRecDepth 100000 in
set_option maxHeartbeats 400000 in
theorem len_nil (W w : World) (L : List HP) (hs : Sat W w L) :
    Calls Try.prog 47 #[.pointer none] w fun e w' => e = .returned (.int .i64 0) ∧ Sat W w' L := by
  go_enter Try.func47, Try.ntmps47
  go_wp2_with fail
  go_ret
  exact ⟨rfl, hs⟩
set_option maxRecDepth 100000 in
set_option maxHeartbeats 400000 in
theorem pending_spec (W w : World) (L : List HP) (b : Nat) (D : Dk) (hs : Sat W w (disk b D :: L)) :
    Calls Try.prog 32 #[.pointer (some ⟨b, 0, none⟩)] w fun e w' => e = .returned (.int .i64 D.row.length) ∧ Sat W w' (disk b D :: L) := by
  obtain ⟨ok, vs, vr, hs⟩ := hs.disk_open
  obtain ⟨A, cap, rfl, h1, h2⟩ := own_slice hs (i := 2) rfl
  go_enter Try.func32, Try.ntmps32
  go_wp2_with (first
    | (guard_target = wpList _ _ _ (⟨some 8, .load _ _, _, _, _, _⟩ :: _) _ _; refine wpl (o := ⟨some 8, .load _ _, _, _, _, _⟩) rfl fun K hK => op_load rfl (ad := ⟨b, 1, none⟩) rfl (by kernel_rfl) (hs.cell m0 rfl) (hK _ _ ?_); clear hK K))
  go_ret
  exact ⟨rfl, hs.disk_shut ok⟩
set_option maxRecDepth 100000 in
set_option maxHeartbeats 400000 in
theorem pending_nil (W w : World) (L : List HP) (hs : Sat W w L) :
    Calls Try.prog 32 #[.pointer none] w fun e w' => e = .returned (.int .i64 0) ∧ Sat W w' L := by
  go_enter Try.func32, Try.ntmps32
  go_wp2_with fail
  go_ret
  exact ⟨rfl, hs⟩
end Go.Proofs.Ytimknlabhhopcaa
