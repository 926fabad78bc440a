/- The walk of the law PackTakes. -/
import Derived.Test.YtgmfgdioaeheoaaDoorPackTells
set_option linter.unusedVariables false
set_option linter.unusedSimpArgs false
namespace Go.Proofs.YtgmfgdioaeheoaaDoor
open Go.RowKit
set_option maxRecDepth 100000 in
set_option maxHeartbeats 4000000 in
theorem packTakes_walk (W w : World) (L : List HP) (hs : Sat W w L) (hold : old W ∈ L) (hm : maxLenIs W) (s : List UInt8) (hl : s.length ≤ 1073741824) :
    Calls Tryd.prog 6 #[(.string ⟨(s).toArray⟩)] w fun e w' => e = .returned (.bool true) ∧ Sat W w' L := by
  have HM := Box.mk hm
  clear hm
  obtain ⟨a, b, c, hN⟩ : ∃ (a : Nat) (b : List UInt8) (c : Nat), tnV s = .tuple #[.int .u32 (a : Nat), (.string ⟨(b).toArray⟩), .int .i64 (c : Nat)] := ⟨_, _, _, rfl⟩
  obtain ⟨d, f, g, hI⟩ : ∃ (d : Int) (f : List UInt8) (g : Nat), takeIV s = .tuple #[.int .i64 d, (.string ⟨(f).toArray⟩), .int .i64 (g : Nat)] := ⟨_, _, _, takeIV_eq s⟩
  obtain ⟨x, y, z, hT⟩ : ∃ (x y : List UInt8) (z : Nat), takeTV (takeT s) = .tuple #[(.string ⟨(x).toArray⟩), (.string ⟨(y).toArray⟩), .int .i64 (z : Nat)] := ⟨_, _, _, takeTV_eq _⟩
  have HN := Box.mk hN
  have HI := Box.mk hI
  have HT := Box.mk hT
  clear hN hI hT
  go_enter Tryd.func6, Tryd.ntmps6
  go_wp2_with (first
    | (go_at_call 15; go_must (refine (awake1_spec W _ _ hs hold HM.out).mono ?_); clear hs; rintro e w1 ⟨rfl, hs⟩)
    | (go_at_call 22; go_must (refine (takeNumL_spec W _ _ hs s hl).mono ?_); clear hs; rintro e w1 ⟨rfl, hs⟩; rw [HN.out])
    | (go_at_call 23; go_must (refine (rtakeNumL_spec W _ _ hs s hl).mono ?_); clear hs; rintro e w1 ⟨rfl, hs⟩; rw [HN.out])
    | (go_at_call 24; go_must (refine (takeInt_spec W _ _ hs s hl).mono ?_); clear hs; rintro e w1 ⟨rfl, hs⟩; rw [HI.out])
    | (go_at_call 25; go_must (refine (rtakeInt_spec W _ _ hs s hl).mono ?_); clear hs; rintro e w1 ⟨rfl, hs⟩; rw [HI.out])
    | (go_at_call 26; go_must (refine (takeText_spec W _ _ hs hold HM.out s hl).mono ?_); clear hs; rintro e w1 ⟨rfl, hs⟩; rw [HT.out])
    | (go_at_call 27; go_must (refine (rtakeText_spec W _ _ hs s hl).mono ?_); clear hs; rintro e w1 ⟨rfl, hs⟩; rw [HT.out]))
  go_ret
  exact ⟨rfl, hs⟩
theorem packTakes_main (W : World) (hm : maxLenIs W) (s : List UInt8) (v2 : Value) (h2 : strU.K (hp W) s [v2]) :
    Calls Tryd.prog 6 #[v2] W fun e w' => e = .returned (.bool true) ∧ Below W.heap.size W w' := by
  obtain ⟨hl, rfl⟩ := str_val h2
  exact (packTakes_walk W W _ (Sat.start W) m0 hm s (by omega)).mono fun e w' ⟨he, hs⟩ => ⟨he, hs.end_ m0⟩
end Go.Proofs.YtgmfgdioaeheoaaDoor
