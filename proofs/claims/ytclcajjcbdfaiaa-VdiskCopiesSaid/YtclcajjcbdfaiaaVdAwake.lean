/- The example of the laws of layer 4 is true; few; run. -/
import Derived.Test.YtclcajjcbdfaiaaVdDo
set_option linter.unusedVariables false
set_option linter.unusedSimpArgs false
namespace Go.Proofs.Ytclcajjcbdfaiaa
open Go.RowKit
theorem bytesH_form {W w : World} {L : List HP} (hs : Sat W w L) (k : Nat) {v : Value} {l : List UInt8} (hk : L[k]? = some (bytesH v l)) {n : Nat} (hn : l.length = n) (h0 : 0 < n) : ∃ b o c, v = .slice (some ⟨b, o, none⟩) n c ∧ n ≤ c ∧ c ≤ 9223372036854775807 := by
  subst hn
  obtain ⟨b, o, c, rfl, h1, h2, _⟩ := bytes_at hs (Has.mem (List.mem_of_getElem? hk) fun F h => h) h0
  exact ⟨b, o, c, rfl, h1, h2⟩
theorem bytesH_has {L : List HP} {v : Value} {l : List UInt8} (k : Nat) (hk : L[k]? = some (bytesH v l)) : Has L (bytesAt v l) := Has.mem (List.mem_of_getElem? hk) fun F h => h
theorem aw1 : (Dk.new 2).wcode 1 [97, 98] = 0 := by decide +kernel
theorem aw2 : ((Dk.new 2).wnext 1 [97, 98]).sync.wcode 1 [99, 100] = 0 := by decide +kernel
theorem aw3 : (((Dk.new 2).wnext 1 [97, 98]).sync.wnext 1 [99, 100]).rbytes 1 = pad [99, 100] := by decide +kernel
theorem aw4 : ((((Dk.new 2).wnext 1 [97, 98]).sync.wnext 1 [99, 100]).crash fun i => ([] : List Bool).getD i false).rbytes 1 = pad [97, 98] := by decide +kernel
theorem aw5 : ((((Dk.new 2).wnext 1 [97, 98]).sync.wnext 1 [99, 100]).crash fun i => ([] : List Bool).getD i false).rcode 1 = 0 := by decide +kernel
theorem bools_nil (F : PH) : boolsAt (.slice none 0 0) [] F := ⟨rfl, none, 0, rfl, Nat.le_refl _, by omega, .inl rfl⟩
set_option maxRecDepth 100000 in
set_option maxHeartbeats 2000000 in
theorem vawake_spec (W w : World) (L : List HP) (hs : Sat W w L) :
    Calls Try.prog 22 #[] w fun e w' => e = .returned (.bool true) ∧ Sat W w' L := by
  have hr1 : (Dk.new 2).row.length ≤ 1000000 := by decide +kernel
  have hr2 : ((Dk.new 2).wnext 1 [97, 98]).row.length ≤ 1000000 := by decide +kernel
  have hr3 : ((Dk.new 2).wnext 1 [97, 98]).sync.row.length ≤ 1000000 := by decide +kernel
  have hr4 : (((Dk.new 2).wnext 1 [97, 98]).sync.wnext 1 [99, 100]).row.length ≤ 1000000 := by decide +kernel
  have f1 := Box.mk aw1
  have f2 := Box.mk aw2
  have f3 := Box.mk aw3
  have f4 := Box.mk aw4
  have f5 := Box.mk aw5
  generalize hD1 : (Dk.new 2).wnext 1 [97, 98] = D1 at *
  generalize hD3 : D1.sync.wnext 1 [99, 100] = D3 at *
  generalize hD4 : (D3.crash fun i => ([] : List Bool).getD i false) = D4 at *
  have hr5 : D4.row.length ≤ 1000000 := by rw [← hD4]; simp
  go_enter Try.func22, Try.ntmps22
  go_wp2_with (first
    | (go_at_call 30; go_must (refine (new_spec W _ _ hs 2 (by omega) (by omega)).mono ?_); clear hs; rintro e w1 ⟨b1, rfl, hs⟩)
    | (refine wpl (o := ⟨some 12, .buildSlice _ _ _, _, _, _, _⟩) rfl fun K hK => ?_; go_must (refine op_lit1 hs rfl Try.underlying22 info_u8 rfl (u8s [97, 98]) (by omega) rfl (u8s_one _) (by simp [u8s, Act.eval]) fun b12 w1 h => hK _ _ ?_); clear hs hK K; have hs := h; clear h)
    | (refine wpl (o := ⟨some 13, .convert _ _ _, _, _, _, _⟩) rfl fun K hK => ?_; go_must (refine op_mark hs rfl Try.underlying22 Try.underlying5 rfl (k := 0) rfl fun w2 h => hK _ _ ?_); clear hs hK K; have hs := h; clear h)
    | (go_at_call 25; refine (write_any W _ _ b1 (Dk.new 2) hs.swap _ _ [97, 98] (lit_bytes 0 rfl 2 rfl (by omega)) hr1).mono ?_; clear hs; rintro e w1 ⟨rfl, hs⟩; rw [hD1] at hs; rw [f1.out])
    | (go_at_call 26; go_must (refine (sync_spec W _ _ b1 D1 hs hr2).mono ?_); clear hs; rintro e w1 ⟨rfl, hs⟩)
    | (refine wpl (o := ⟨some 18, .buildSlice _ _ _, _, _, _, _⟩) rfl fun K hK => ?_; go_must (refine op_lit1 hs rfl Try.underlying22 info_u8 rfl (u8s [99, 100]) (by omega) rfl (u8s_one _) (by simp [u8s, Act.eval]) fun b18 w1 h => hK _ _ ?_); clear hs hK K; have hs := h; clear h)
    | (refine wpl (o := ⟨some 19, .convert _ _ _, _, _, _, _⟩) rfl fun K hK => ?_; go_must (refine op_mark hs rfl Try.underlying22 Try.underlying5 rfl (k := 0) rfl fun w2 h => hK _ _ ?_); clear hs hK K; have hs := h; clear h)
    | (go_at_call 25; refine (write_any W _ _ b1 D1.sync hs.swap _ _ [99, 100] (lit_bytes 0 rfl 2 rfl (by omega)) hr3).mono ?_; clear hs; rintro e w1 ⟨rfl, hs⟩; rw [hD3] at hs; rw [f2.out])
    | (go_at_call 28; refine (read_any W _ _ b1 D3 hs 1 hr4).mono ?_; clear hs; rintro e w1 ⟨v3, rfl, hs⟩; rw [f3.out] at hs
       obtain ⟨b3, o3, c3, rfl, h31, h32⟩ := bytesH_form hs 0 rfl (n := 64) rfl (by omega))
    | (go_at_call 27; go_must (refine (crash_spec W _ _ b1 D3 hs.swap hr4 _ [] (Has.head fun F _ => bools_nil F)).mono ?_); clear hs; rintro e w1 ⟨rfl, hs⟩; rw [hD4] at hs)
    | (go_at_call 28; refine (read_any W _ _ b1 D4 hs 1 hr5).mono ?_; clear hs; rintro e w1 ⟨v4, rfl, hs⟩; rw [f4.out] at hs; rw [f5.out]
       obtain ⟨b4, o4, c4, rfl, h41, h42⟩ := bytesH_form hs 0 rfl (n := 64) rfl (by omega)
       have hb3 := hs.bytes ((bytesH_has (l := pad [97, 98]) 0 rfl).imp fun F h => bytes_take h 3 (by decide))
       have hb4 : bytesAt (.slice (some ⟨b4, o4, none⟩) 3 c4) [97, 98, 0] (hp w1) := hb3
       clear hb3
       have hc3 := bytes_cell hs (bytesH_has 2 rfl) 0 (by decide)
       rw [Nat.add_zero, show (pad [99, 100])[0] = 99 from rfl] at hc3)
    | (refine wpl (o := ⟨some 51, .convert _ _ _, _, _, _, _⟩) rfl fun K hK => ?_; go_must (refine op_to_string rfl Try.underlying22 Try.underlying5 Try.underlying9 rfl hb4 (hK _ _ ?_)); clear hK K))
  go_ret
  refine ⟨rfl, hs.keep (by repeat (first | exact List.Sublist.refl _ | with_reducible apply List.Sublist.cons_cons | apply List.Sublist.cons))⟩
end Go.Proofs.Ytclcajjcbdfaiaa
