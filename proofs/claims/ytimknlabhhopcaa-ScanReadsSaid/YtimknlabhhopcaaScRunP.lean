/- A ring behind deeds, with its records: plain laws; no Go in it. -/
import Derived.Test.YtimknlabhhopcaaScMade
set_option linter.unusedVariables false
set_option linter.unusedSimpArgs false
namespace Go.Proofs.Ytimknlabhhopcaa
structure Md where
  R : Rg
  rl : List Rcd
  sy : Nat
def mdStep (s : Md) (c : RDeed) : Md :=
  if c.kind = 1 then (if s.R.code c.rec_ = 0 then ⟨s.R.append c.rec_, s.rl ++ [(c.rec_, s.R.next + (cuts c.rec_).length)], s.sy⟩ else s)
  else if c.kind = 2 then ⟨s.R.cut (endAt s.R.low s.rl (min c.n.toNat s.rl.length)), s.rl.drop (min c.n.toNat s.rl.length), s.sy - min c.n.toNat s.rl.length⟩
  else ⟨s.R.sync, s.rl, s.rl.length⟩
def md0 : Md := ⟨⟨Dk.new 12, 2, 8, 3, 0, 0⟩, [], 0⟩
def mdRun (l : List RDeed) : Md := l.foldl mdStep md0
theorem mdRun_snoc (l : List RDeed) (k : Nat) (h : k < l.length) : mdRun (l.take (k + 1)) = mdStep (mdRun (l.take k)) l[k] := by
  rw [List.take_succ_eq_append_getElem h]; unfold mdRun; rw [List.foldl_append]; rfl
theorem new_readS (n i : Nat) (h : i < n) : (Dk.new n).read i = List.replicate 64 0 := by
  unfold Dk.read Dk.new
  simp [List.getD_eq_getElem?_getD, h, pad]
theorem md0_inv : ScInv md0.R md0.rl md0.sy := by
  have hs : md0.R.D.secs.length = 12 := by simp [md0, Dk.new]
  refine ⟨⟨Dk.new_ok (by omega), by decide, by rw [hs]; decide, by decide, by decide, by decide, by decide⟩, rfl, rfl, rfl, hs, rfl, fun i v h1 h2 hv => .inl ?_, fun n h1 h2 => absurd h2 (by show ¬ n < 0; omega), Nat.le_refl _, fun n h1 h2 => absurd h2 (by show ¬ n < 0; omega)⟩
  have := vers_bare (D := md0.R.D) rfl hv
  rw [this]
  exact new_readS 12 i (by omega)
theorem md_step {s : Md} (I : ScInv s.R s.rl s.sy) (c : RDeed) : ScInv (mdStep s c).R (mdStep s c).rl (mdStep s c).sy := by
  unfold mdStep
  split
  · split
    · exact I.append _ (by assumption)
    · exact I
  · split
    · exact I.cut _ (by omega)
    · exact I.sync
theorem cuts_400S {l : List UInt8} (h : l.length ≤ 400) : (cuts l).length ≤ 8 := by rw [cuts_number _ l (Nat.le_refl _)]; omega
structure MdB (s : Md) (k : Nat) : Prop where
  inv : ScInv s.R s.rl s.sy
  rows : s.R.D.row.length ≤ 8 * k
  cnt : s.rl.length ≤ k
theorem mdRun_inv (l : List RDeed) (hs : Small l) : ∀ k, k ≤ l.length → MdB (mdRun (l.take k)) k
  | 0, _ => ⟨md0_inv, by simp [mdRun, md0, Dk.new], by simp [mdRun, md0]⟩
  | k + 1, hk => by
    obtain ⟨h1, h2, h3⟩ := mdRun_inv l hs k (by omega)
    rw [mdRun_snoc l k (by omega)]
    have hb := cuts_400S (hs.2 l[k] (List.getElem_mem (by omega)))
    have hr := Rg.append_row (mdRun (l.take k)).R l[k].rec_
    refine ⟨md_step h1 _, ?_, ?_⟩
    · unfold mdStep
      split
      · split
        · show ((mdRun (l.take k)).R.append l[k].rec_).D.row.length ≤ _; omega
        · omega
      · split
        · show ((mdRun (l.take k)).R.cut _).D.row.length ≤ _; rw [Rg.cut_D]; omega
        · show (mdRun (l.take k)).R.D.sync.row.length ≤ _; simp
    · unfold mdStep
      split
      · split
        · show ((mdRun (l.take k)).rl ++ _).length ≤ _; simp; omega
        · omega
      · split
        · show ((mdRun (l.take k)).rl.drop _).length ≤ _; simp; omega
        · show (mdRun (l.take k)).rl.length ≤ _; omega
end Go.Proofs.Ytimknlabhhopcaa
