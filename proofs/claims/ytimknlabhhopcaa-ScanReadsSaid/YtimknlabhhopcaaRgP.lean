/- A ring of sectors as plain data: no Go in it. -/
import Derived.Test.YtimknlabhhopcaaVdP
import Derived.Test.YtimknlabhhopcaaCutP
import Derived.Test.YtimknlabhhopcaaFrWholeP
import Derived.Test.YtimknlabhhopcaaFrP2
set_option linter.unusedVariables false
set_option linter.unusedSimpArgs false
namespace Go.Proofs.Ytimknlabhhopcaa
/-- A place, an epoch, the numbers that are kept, and a disk. -/
structure Rg where
  D : Dk
  first : Nat
  many : Nat
  epoch : Nat
  low : Nat
  next : Nat
namespace Rg
structure Ok (R : Rg) : Prop where
  disk : R.D.Ok
  many1 : 1 ≤ R.many
  place : R.first + R.many ≤ R.D.secs.length
  ep : R.epoch < 4294967296
  lo : R.low ≤ R.next
  few : R.next - R.low ≤ R.many
  top : R.next ≤ 1073741824
def at_ (R : Rg) (n : Nat) : Nat := R.first + n % R.many
theorem at_lt {R : Rg} (ok : R.Ok) (n : Nat) : R.at_ n < R.D.secs.length := by
  have h1 := ok.many1
  have h2 := ok.place
  have : n % R.many < R.many := Nat.mod_lt _ (by omega)
  unfold at_; omega
def free (R : Rg) : Nat := R.many - (R.next - R.low)
def frames (R : Rg) (rec : List UInt8) : List Fr := cutF R.epoch R.next rec
/-- The disk behind frames that are laid. -/
def lay (R : Rg) (D : Dk) (l : List Fr) : Dk := l.foldl (fun D f => D.write (R.at_ f.seq) f.pack) D
theorem lay_snoc (R : Rg) (D : Dk) (l : List Fr) (f : Fr) : R.lay D (l ++ [f]) = (R.lay D l).write (R.at_ f.seq) f.pack := by simp [lay]
@[simp] theorem lay_size (R : Rg) : ∀ (l : List Fr) (D : Dk), (R.lay D l).secs = D.secs
  | [], D => rfl
  | f :: l, D => by rw [lay, List.foldl_cons]; exact lay_size R l _
theorem lay_row (R : Rg) : ∀ (l : List Fr) (D : Dk), (R.lay D l).row = D.row ++ l.map fun f => (R.at_ f.seq, pad f.pack)
  | [], D => by simp [lay]
  | f :: l, D => by rw [lay, List.foldl_cons, ← lay, lay_row R l]; simp [Dk.write]
theorem lay_rows (R : Rg) (l : List Fr) (D : Dk) : (R.lay D l).row.length = D.row.length + l.length := by rw [lay_row]; simp
theorem lay_ok {R : Rg} (ok : R.Ok) : ∀ (l : List Fr) (D : Dk), D.Ok → D.secs.length = R.D.secs.length → (∀ f ∈ l, f.body.length ≤ 50) → (R.lay D l).Ok
  | [], D, h, _, _ => h
  | f :: l, D, h, hl, hb => by
    rw [lay, List.foldl_cons]
    refine lay_ok ok l _ (Dk.write_ok h (by rw [hl]; exact at_lt ok _) ?_) hl fun g hg => hb g (List.mem_cons_of_mem _ hg)
    rw [Fr.pack_length (hb f List.mem_cons_self)]; omega
def code (R : Rg) (rec : List UInt8) : Nat := if R.free < (cuts rec).length then 3 else if 1073741824 < R.next + (cuts rec).length then 10 else 0
def told (R : Rg) (rec : List UInt8) : Nat := if R.code rec = 0 then R.next + (cuts rec).length else 0
def append (R : Rg) (rec : List UInt8) : Rg := if R.code rec = 0 then { R with D := R.lay R.D (R.frames rec), next := R.next + (cuts rec).length } else R
def cut (R : Rg) (lo : Nat) : Rg := if R.low < lo ∧ lo ≤ R.next then { R with low := lo } else R
def sync (R : Rg) : Rg := { R with D := R.D.sync }
theorem frames_body (R : Rg) (rec : List UInt8) : ∀ f ∈ R.frames rec, f.body.length ≤ 50 := fun f hf => by
  obtain ⟨i, hi, rfl⟩ := List.mem_iff_getElem.1 hf
  have hi' : i < (cuts rec).length := by simpa [frames] using hi
  have h := cutF_get R.epoch R.next rec i hi'
  have h2 : (cutF R.epoch R.next rec)[i]'(by simpa [frames] using hi) = (R.frames rec)[i] := rfl
  rw [List.getElem?_eq_getElem (by simpa [frames] using hi), h2] at h
  rw [Option.some.inj h]
  exact cuts_len _ rec (Nat.le_refl _) _ (List.getElem_mem hi')
theorem append_ok {R : Rg} (ok : R.Ok) (rec : List UInt8) : (R.append rec).Ok := by
  unfold append
  split
  · rename_i h
    have h1 := ok.lo
    have h2 := ok.few
    have hc : ¬ R.free < (cuts rec).length ∧ ¬ 1073741824 < R.next + (cuts rec).length := by
      unfold code at h
      split at h
      · omega
      · split at h
        · omega
        · exact ⟨by assumption, by assumption⟩
    have h3 := hc.1
    unfold free at h3
    exact ⟨lay_ok ok _ _ ok.disk rfl (frames_body R rec), ok.many1, by simpa using ok.place, ok.ep, by show R.low ≤ R.next + (cuts rec).length; omega, by show R.next + (cuts rec).length - R.low ≤ R.many; omega, by show R.next + (cuts rec).length ≤ _; omega⟩
  · exact ok
theorem cut_ok {R : Rg} (ok : R.Ok) (lo : Nat) : (R.cut lo).Ok := by
  unfold cut
  split
  · rename_i h
    have h2 := ok.few
    exact ⟨ok.disk, ok.many1, ok.place, ok.ep, h.2, by show R.next - lo ≤ R.many; omega, ok.top⟩
  · exact ok
theorem sync_ok {R : Rg} (ok : R.Ok) : R.sync.Ok := ⟨Dk.crash_ok ok.disk _, ok.many1, by simpa [sync] using ok.place, ok.ep, ok.lo, ok.few, ok.top⟩
theorem append_row (R : Rg) (rec : List UInt8) : (R.append rec).D.row.length ≤ R.D.row.length + (cuts rec).length := by
  unfold append
  split
  · show (R.lay R.D (R.frames rec)).row.length ≤ _
    rw [lay_rows]; simp [frames]
  · omega
@[simp] theorem append_size (R : Rg) (rec : List UInt8) : (R.append rec).D.secs = R.D.secs := by unfold append; split <;> simp
@[simp] theorem append_first (R : Rg) (rec : List UInt8) : (R.append rec).first = R.first := by unfold append; split <;> rfl
@[simp] theorem append_many (R : Rg) (rec : List UInt8) : (R.append rec).many = R.many := by unfold append; split <;> rfl
@[simp] theorem append_epoch (R : Rg) (rec : List UInt8) : (R.append rec).epoch = R.epoch := by unfold append; split <;> rfl
@[simp] theorem append_low (R : Rg) (rec : List UInt8) : (R.append rec).low = R.low := by unfold append; split <;> rfl
@[simp] theorem cut_D (R : Rg) (lo : Nat) : (R.cut lo).D = R.D := by unfold cut; split <;> rfl
@[simp] theorem cut_first (R : Rg) (lo : Nat) : (R.cut lo).first = R.first := by unfold cut; split <;> rfl
@[simp] theorem cut_many (R : Rg) (lo : Nat) : (R.cut lo).many = R.many := by unfold cut; split <;> rfl
@[simp] theorem cut_epoch (R : Rg) (lo : Nat) : (R.cut lo).epoch = R.epoch := by unfold cut; split <;> rfl
@[simp] theorem cut_next (R : Rg) (lo : Nat) : (R.cut lo).next = R.next := by unfold cut; split <;> rfl
end Rg
end Go.Proofs.Ytimknlabhhopcaa
