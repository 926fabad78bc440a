/- What the walks of the laws of layer 4 share. -/
import Derived.Test.YtclcajjcbdfaiaaVdLaws
import Derived.Test.YtclcajjcbdfaiaaVdRun
import Derived.Test.YtclcajjcbdfaiaaVdFits
import Derived.Test.YtclcajjcbdfaiaaPk
set_option linter.unusedVariables false
set_option linter.unusedSimpArgs false
namespace Go.Proofs.Ytclcajjcbdfaiaa
open Go.RowKit
theorem few2_spec (W w : World) (L : List HP) (hs : Sat W w L) (hold : old W ∈ L) (v : Value) (l : List Deed) (h : deedsAt v l (hp W)) :
    Calls Try.prog 23 #[v] w fun e w' => (e = .returned (.bool false) ∧ Sat W w' L) ∨ (e = .returned (.bool true) ∧ l.length ≤ 60 ∧ Box (∀ c ∈ l, c.b.length ≤ 100) ∧ Sat W w' L) :=
  (few_spec W w L hs hold v l h).mono fun e w' ⟨r, he, hf, hs'⟩ => by
    cases r
    · exact .inl ⟨he, hs'⟩
    · exact .inr ⟨he, (hf rfl).1, ⟨(hf rfl).2⟩, hs'⟩
theorem rcode_in {D : Dk} {i : Nat} (h : i < D.secs.length) : D.rcode (i : Int) = 0 := by
  have : D.out (i : Int) = false := by simp [Dk.out]; omega
  simp [Dk.rcode, this]
theorem wcode_in {D : Dk} {i : Nat} {l : List UInt8} (h : i < D.secs.length) (hl : l.length ≤ 64) : D.wcode (i : Int) l = 0 := by
  have : D.out (i : Int) = false := by simp [Dk.out]; omega
  simp [Dk.wcode, this]; omega
theorem rbytes_in {D : Dk} {i : Nat} (h : i < D.secs.length) : D.rbytes (i : Int) = D.read i := by
  have : D.out (i : Int) = false := by simp [Dk.out]; omega
  simp [Dk.rbytes, this]
theorem wnext_in {D : Dk} {i : Nat} {l : List UInt8} (h : i < D.secs.length) (hl : l.length ≤ 64) : D.wnext (i : Int) l = D.write i l := by
  simp [Dk.wnext, wcode_in h hl]
end Go.Proofs.Ytclcajjcbdfaiaa
