/- A new disk. -/
import Derived.Test.YtimknlabhhopcaaVd
set_option linter.unusedVariables false
set_option linter.unusedSimpArgs false
namespace Go.Proofs.Ytimknlabhhopcaa
open Go.RowKit
theorem zsec : (Try.prog.info? 106).map (fun i => (i.zero, i.size, i.bytes)) = some (some (.agg (u8s (List.replicate 64 0)).toArray), 64, 64) := by kernel_rfl
theorem new_cells_len (n : Nat) : (secCells (List.replicate n (pad []))).length = n * 64 := by
  rw [secCells, flat_len (n := 64) _ (fun x hx => by rw [List.mem_replicate] at hx; rw [hx.2]; simp [pad])]; simp
theorem new_cells_get (n j : Nat) (h : j < n * 64) : (secCells (List.replicate n (pad [])))[j]? = (u8s (List.replicate 64 0))[j % 64]? := by
  have e : j = j / 64 * 64 + j % 64 := by omega
  have hlt : j / 64 < (List.replicate n (pad [])).length := by simp; omega
  conv => lhs; rw [e]
  rw [secCells, flat_get (n := 64) _ (fun x hx => by rw [List.mem_replicate] at hx; rw [hx.2]; simp [pad]) (j / 64) hlt (j % 64) (by omega)]
  simp [pad]
set_option maxRecDepth 100000 in
set_option maxHeartbeats 400000 in
theorem new_spec (W w : World) (L : List HP) (hs : Sat W w L) (n : Nat) (h1 : 1 ≤ n) (h2 : n ≤ 1024) :
    Calls Try.prog 16 #[.int .i64 n] w fun e w' => ∃ b, e = .returned (.pointer (some ⟨b, 0, none⟩)) ∧ Sat W w' (disk b (Dk.new n) :: L) := by
  have hcl := new_cells_len n
  have hcg := new_cells_get n
  go_enter Try.func16, Try.ntmps16
  go_wp2_with (first
    | (guard_target = wpList _ _ _ (⟨some 10, .makeSlice _ _ _, _, _, _, _⟩ :: _) _ _; refine wpl (o := ⟨some 10, .makeSlice _ _ _, _, _, _, _⟩) rfl fun K hK => ?_; go_must (refine op_make_agg hs (n := n) (c := n) rfl Try.underlying100 rfl rfl zsec (u8s (List.replicate 64 0)) rfl (by simp) (by omega) (by omega) (by omega) (by omega) (secCells (List.replicate n (pad []))) hcl hcg fun b0 w1 h => hK _ _ ?_); clear hs hK K; have hs := h; clear h)
    | (guard_target = wpList _ _ _ (⟨some 12, .box _ _, _, _, _, _⟩ :: _) _ _; refine wpl (o := ⟨some 12, .box _ _, _, _, _, _⟩) rfl fun K hK => ?_; go_must (refine op_box hs rfl _ rfl [.slice (some ⟨b0, 0, none⟩) n n, .slice none 0 0] rfl fun b3 w1 h => hK _ _ ?_); clear hs hK K; have hs := h; clear h))
  go_ret
  refine ⟨b3, rfl, Sat.disk_shut (vs := .slice (some ⟨b0, 0, none⟩) n n) (vr := .slice none 0 0) (Dk.new_ok h2) ?_⟩
  have hs1 := hs.addNil none 108 65
  have hs2 := hs1.perm (M := row b3 [.slice (some ⟨b0, 0, none⟩) n n, .slice none 0 0] 103 :: row b0 (secCells (List.replicate n (pad []))) 106 :: own (.slice none 0 0) 108 0 65 [] :: L) (by
    refine List.Perm.trans (List.Perm.swap _ _ _) (List.Perm.cons _ (List.Perm.swap _ _ _)))
  have hs3 := hs2.sub (i := 1) rfl (own_exact (n := n) (sz := 64) hcl (by omega))
  simpa [Dk.new, rowCells] using hs3
set_option maxRecDepth 100000 in
set_option maxHeartbeats 400000 in
theorem new_none (W w : World) (L : List HP) (hs : Sat W w L) (n : Int) (h1 : n < 1 ∨ 1024 < n) :
    Calls Try.prog 16 #[.int .i64 n] w fun e w' => e = .returned (.pointer none) ∧ Sat W w' L := by
  go_enter Try.func16, Try.ntmps16
  by_cases h : n < 1
  · go_wp2_with fail
    go_ret
    exact ⟨rfl, hs⟩
  · have h' : 1024 < n := by omega
    go_wp2_with fail
    go_ret
    exact ⟨rfl, hs⟩
end Go.Proofs.Ytimknlabhhopcaa
