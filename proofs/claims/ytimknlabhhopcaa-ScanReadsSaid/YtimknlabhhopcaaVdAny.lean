/- The contracts of Read and Write, and of the reference's, for whatever sector and bytes. -/
import Derived.Test.YtimknlabhhopcaaVdRefC
import Derived.Test.YtimknlabhhopcaaVdCopy
set_option linter.unusedVariables false
set_option linter.unusedSimpArgs false
namespace Go.Proofs.Ytimknlabhhopcaa
open Go.RowKit
namespace Dk
def out (D : Dk) (i : Int) : Bool := decide (i < 0) || decide ((D.secs.length : Int) ≤ i)
def wcode (D : Dk) (i : Int) (l : List UInt8) : Nat := if D.out i then 11 else if 64 < l.length then 1 else 0
def wnext (D : Dk) (i : Int) (l : List UInt8) : Dk := if D.wcode i l = 0 then D.write i.toNat l else D
def rcode (D : Dk) (i : Int) : Nat := if D.out i then 11 else 0
def rbytes (D : Dk) (i : Int) : List UInt8 := if D.out i then [] else D.read i.toNat
theorem out_of {D : Dk} {i : Int} (h : D.out i = true) : i < 0 ∨ (D.secs.length : Int) ≤ i := by simpa [out] using h
theorem not_out {D : Dk} {i : Int} (h : D.out i = false) : ∃ n : Nat, i = n ∧ n < D.secs.length := by
  simp only [out, Bool.or_eq_false_iff, decide_eq_false_iff_not] at h
  exact ⟨i.toNat, by omega, by omega⟩
theorem wnext_ok {D : Dk} (ok : D.Ok) (i : Int) (l : List UInt8) : (D.wnext i l).Ok := by
  unfold wnext wcode
  cases h : D.out i
  · obtain ⟨n, rfl, hn⟩ := not_out h
    by_cases hl : 64 < l.length
    · simpa [hl] using ok
    · simpa [hl] using write_ok ok hn (by omega)
  · simpa using ok
theorem wnext_row (D : Dk) (i : Int) (l : List UInt8) : (D.wnext i l).row.length ≤ D.row.length + 1 := by
  unfold wnext
  split
  · simp [write]
  · omega
@[simp] theorem wnext_size (D : Dk) (i : Int) (l : List UInt8) : (D.wnext i l).secs.length = D.secs.length := by
  unfold wnext
  split <;> rfl
end Dk
theorem pull_perm {α : Type} : ∀ (L : List α) (k : Nat) (h : k < L.length), L.Perm (L[k] :: L.eraseIdx k)
  | x :: L, 0, _ => List.Perm.refl _
  | x :: L, k + 1, h => ((pull_perm L k (by simpa using h)).cons x).trans (List.Perm.swap _ _ _)
theorem Sat.pull {W w : World} {L : List HP} (h : Sat W w L) (k : Nat) {A : HP} (hk : L[k]? = some A) : Sat W w (A :: L.eraseIdx k) := by
  obtain ⟨hlt, e⟩ := List.getElem?_eq_some_iff.1 hk
  subst e
  exact h.perm (pull_perm L k hlt)
theorem write_any (W w : World) (L : List HP) (b : Nat) (D : Dk) (hs : Sat W w (disk b D :: L)) (i : Int) (v : Value) (l : List UInt8) (hv : Has L (bytesAt v l)) (hr : D.row.length ≤ 1000000) :
    Calls Try.prog 18 #[.pointer (some ⟨b, 0, none⟩), .int .i64 i, v] w fun e w' => e = .returned (.int .i64 (D.wcode i l : Nat)) ∧ Sat W w' (disk b (D.wnext i l) :: L) := by
  cases h : D.out i
  · obtain ⟨n, rfl, hn⟩ := Dk.not_out h
    by_cases hl : 64 < l.length
    · have e : D.wcode n l = 1 := by simp [Dk.wcode, h, hl]
      refine (write_long W w L b D hs n hn v l hv hl).mono fun e' w' h' => ?_
      simpa [Dk.wnext, e] using h'
    · have e : D.wcode n l = 0 := by simp [Dk.wcode, h, hl]
      refine (write_spec W w L b D hs n hn v l hv (by omega) hr).mono fun e' w' h' => ?_
      simpa [Dk.wnext, e] using h'
  · have e : D.wcode i l = 11 := by simp [Dk.wcode, h]
    refine (write_bound W w L b D hs i (Dk.out_of h) v).mono fun e' w' h' => ?_
    simpa [Dk.wnext, e] using h'
theorem rwrite_any (W w : World) (L : List HP) (vs va vr : Value) (D : Dk) (hs : Sat W w (ref vs va vr D :: L)) (i : Int) (v : Value) (l : List UInt8) (hv : Has L (bytesAt v l)) (hr : D.row.length ≤ 1000000) :
    Calls Try.prog 19 #[.agg #[vs, va, vr], .int .i64 i, v] w fun e w' => ∃ vs' va' vr', e = .returned (.tuple #[.agg #[vs', va', vr'], .int .i64 (D.wcode i l : Nat)]) ∧ Sat W w' (ref vs' va' vr' (D.wnext i l) :: L) := by
  cases h : D.out i
  · obtain ⟨n, rfl, hn⟩ := Dk.not_out h
    by_cases hl : 64 < l.length
    · have e : D.wcode n l = 1 := by simp [Dk.wcode, h, hl]
      refine (rwrite_bad W w L vs va vr D hs n v l hv 1 (.inr ⟨rfl, by omega, by omega, hl⟩)).mono fun e' w' h' => ⟨vs, va, vr, ?_⟩
      simpa [Dk.wnext, e] using h'
    · have e : D.wcode n l = 0 := by simp [Dk.wcode, h, hl]
      refine (rwrite_spec W w L vs va vr D hs n hn v l hv (by omega) hr).mono fun e' w' h' => ?_
      simpa [Dk.wnext, e] using h'
  · have e : D.wcode i l = 11 := by simp [Dk.wcode, h]
    refine (rwrite_bad W w L vs va vr D hs i v l hv 11 (.inl ⟨rfl, Dk.out_of h⟩)).mono fun e' w' h' => ⟨vs, va, vr, ?_⟩
    simpa [Dk.wnext, e] using h'
theorem read_any (W w : World) (L : List HP) (b : Nat) (D : Dk) (hs : Sat W w (disk b D :: L)) (i : Int) (hr : D.row.length ≤ 1000000) :
    Calls Try.prog 33 #[.pointer (some ⟨b, 0, none⟩), .int .i64 i] w fun e w' => ∃ v, e = .returned (.tuple #[v, .int .i64 (D.rcode i : Nat)]) ∧ Sat W w' (bytesH v (D.rbytes i) :: disk b D :: L) := by
  cases h : D.out i
  · obtain ⟨n, rfl, hn⟩ := Dk.not_out h
    refine (read_spec W w L b D hs n hn hr).mono fun e' w' h' => ?_
    obtain ⟨b', rfl, h'⟩ := h'
    have hl := Dk.read_len (h'.tail.disk_open.1) hn
    refine ⟨_, by simp [Dk.rcode, h]; rfl, h'.sub (i := 0) rfl fun F hF => ?_⟩
    have := own_sliceAt F (own_exact (n := 64) (sz := 1) (by simp [hl]) (by omega) F hF)
    simpa [bytesH, bytesAt, Dk.rbytes, h, hl] using this
  · refine (read_bound W w L b D hs i (Dk.out_of h)).mono fun e' w' h' => ?_
    refine ⟨_, by rw [h'.1]; simp [Dk.rcode, h]; rfl, ?_⟩
    have := h'.2.addNil none 5 1
    exact this.sub (i := 0) rfl fun F hF => by
      have := own_sliceAt F hF
      simpa [bytesH, bytesAt, Dk.rbytes, h, u8s] using this
theorem rread_any (W w : World) (L : List HP) (vs va vr : Value) (D : Dk) (hs : Sat W w (ref vs va vr D :: L)) (i : Int) (hr : D.row.length ≤ 1000000) (hfew : D.secs.length ≤ 1024) :
    Calls Try.prog 50 #[.agg #[vs, va, vr], .int .i64 i] w fun e w' => e = .returned (.tuple #[str (D.rbytes i), .int .i64 (D.rcode i : Nat)]) ∧ Sat W w' (ref vs va vr D :: L) := by
  cases h : D.out i
  · obtain ⟨n, rfl, hn⟩ := Dk.not_out h
    refine (rread_spec W w L vs va vr D hs n hn hr hfew).mono fun e' w' h' => ?_
    simpa [Dk.rbytes, Dk.rcode, h] using h'
  · refine (rread_bound W w L vs va vr D hs i (Dk.out_of h)).mono fun e' w' h' => ?_
    simpa [Dk.rbytes, Dk.rcode, h, str] using h'
end Go.Proofs.Ytimknlabhhopcaa
