/- Strings as values; what is known of the types string and byte. -/
import Derived.Test.YthjnefpnnifjiaaDoorOp3
import Derived.Laws.BitsLemmas
set_option linter.unusedVariables false
set_option linter.unusedSimpArgs false
namespace Go.Proofs.YthjnefpnnifjiaaDoor
open Go.RowKit
def str (l : List UInt8) : Value := .string ⟨l.toArray⟩
theorem info_str : (Tryd.prog.info? 9).map (fun i => (i.zero, i.size, i.bytes)) = some (some (.string ⟨#[]⟩), 1, 16) := by kernel_rfl
theorem info_u8 : (Tryd.prog.info? 5).map (fun i => (i.zero, i.size, i.bytes)) = some (some (.int .u8 0), 1, 1) := by kernel_rfl
theorem str_app (l m : List UInt8) : (⟨l.toArray⟩ : ByteArray) ++ (⟨m.toArray⟩ : ByteArray) = ⟨(l ++ m).toArray⟩ := by
  apply ByteArray.ext
  rw [ByteArray.data_append]
  simp
theorem u8s_one (l : List UInt8) : ∀ v ∈ u8s l, v.oneCell' = true := fun v hv => by
  simp only [u8s, List.mem_map] at hv
  obtain ⟨_, _, rfl⟩ := hv; rfl
theorem str_get (l : List UInt8) (k : Nat) (h : k < l.length) (h' : k < ByteArray.size ⟨l.toArray⟩) : (⟨l.toArray⟩ : ByteArray)[k] = l[k] := rfl
theorem res_tmp3 {fn : Func} {t u v : Tmp} (h : fn.results = #[.tmp t, .tmp u, .tmp v]) (tmps : Array Value) (P : Program) (w : World) :
    (results fn tmps).run P w = .ok (.tuple #[tmps.getD t undef, tmps.getD u undef, tmps.getD v undef]) w := by
  simp [results, h]
theorem str_extract (l : List UInt8) (a b : Nat) : ByteArray.extract ⟨l.toArray⟩ a b = ⟨((l.take b).drop a).toArray⟩ := by
  apply ByteArray.ext
  rw [ByteArray.data_extract]
  apply Array.ext'
  simp [List.drop_take]
theorem w64 {n : Int} (h0 : 0 ≤ n) (h1 : n < 18446744073709551616) : IntKind.u64.wrap n = n := by simp [IntKind.wrap, IntKind.bits, IntKind.signed]; omega
theorem wi64 {n : Int} (h0 : -9223372036854775808 ≤ n) (h1 : n < 9223372036854775808) : IntKind.i64.wrap n = n := by simp [IntKind.wrap, IntKind.bits, IntKind.signed]; omega
theorem w8 {n : Int} (h0 : 0 ≤ n) (h1 : n < 256) : IntKind.u8.wrap n = n := by simp [IntKind.wrap, IntKind.bits, IntKind.signed]; omega
theorem w32 {n : Int} (h0 : 0 ≤ n) (h1 : n < 4294967296) : IntKind.u32.wrap n = n := by simp [IntKind.wrap, IntKind.bits, IntKind.signed]; omega
theorem or_low (a b : Nat) (ha : a < 72057594037927936) (hb : b < 256) : bits .or .u64 ((a : Int) * 256) (b : Int) = ((256 * a + b : Nat) : Int) := by
  rw [bits_join .u64 64 (by decide) (fun n h0 h1 => w64 h0 (by simpa using h1)) 8 _ _ (by omega) (by simp <;> omega) (by simp <;> omega) (by omega) (by simp <;> omega) (by simp <;> omega)]
  simp
  omega
/-- Bytes that somebody has. -/
def bytesH (v : Value) (l : List UInt8) : HP := fun F => bytesAt v l F
theorem bytesH_form {W w : World} {L : List HP} (hs : Sat W w L) (k : Nat) {v : Value} {l : List UInt8} (hk : L[k]? = some (bytesH v l)) {n : Nat} (hn : l.length = n) (h0 : 0 < n) : ∃ b o c, v = .slice (some ⟨b, o, none⟩) n c ∧ n ≤ c ∧ c ≤ 9223372036854775807 := by
  subst hn
  obtain ⟨b, o, c, rfl, h1, h2, _⟩ := bytes_at hs (Has.mem (List.mem_of_getElem? hk) fun F h => h) h0
  exact ⟨b, o, c, rfl, h1, h2⟩
theorem bytesH_has {L : List HP} {v : Value} {l : List UInt8} (k : Nat) (hk : L[k]? = some (bytesH v l)) : Has L (bytesAt v l) := Has.mem (List.mem_of_getElem? hk) fun F h => h
theorem bytesH_mem {L : List HP} {v : Value} {l : List UInt8} (h : bytesH v l ∈ L) : Has L (bytesAt v l) := Has.mem h fun F h => h
theorem bytes_sub {b o n cap c m : Nat} {l : List UInt8} {F : PH} (h : bytesAt (.slice (some ⟨b, o, none⟩) n cap) l F) (i : Nat) (hi : i + m ≤ l.length) (hc : m ≤ c) (hm : c ≤ 9223372036854775807) : bytesAt (.slice (some ⟨b, o + i, none⟩) m c) ((l.drop i).take m) F := by
  obtain ⟨hl, A', cap', e, _, _, h0⟩ := h
  cases e
  have hlen : ((l.drop i).take m).length = m := by simp; omega
  refine ⟨by simp, _, c, by rw [hlen], by rw [hlen]; exact hc, hm, ?_⟩
  rcases h0 with h0 | ⟨b', o', e, cs, t, fr, hF, hcell⟩
  · left
    have : l = [] := by simpa [u8s] using h0
    subst this; simp [u8s]
  · cases e
    refine .inr ⟨b, o + i, rfl, cs, t, fr, hF, fun j v hj => ?_⟩
    rw [Nat.add_assoc]
    refine hcell (i + j) v ?_
    simp only [u8s, List.map_take, List.map_drop, List.getElem?_take] at hj
    split at hj
    · simpa [u8s] using hj
    · cases hj
theorem bytesS_cell {w : World} {b o n cap : Nat} {l : List UInt8} (h : bytesAt (.slice (some ⟨b, o, none⟩) n cap) l (hp w)) (i : Nat) (hi : i < l.length) : w.cell? ⟨b, o + i, none⟩ = some (.int .u8 l[i].toNat) := by
  obtain ⟨hl, A', cap', e, _, _, h0 | ⟨b', o', e2, hc⟩⟩ := h
  · have : l = [] := by simpa [u8s] using h0
    subst this; simp at hi
  · cases e
    cases e2
    exact cellsAt_world hc i _ (by simp [u8s, hi])
theorem own_slice {W w : World} {L : List HP} (hs : Sat W w L) {i : Nat} {v : Value} {e : TypeId} {n sz : Nat} {vs : List Value} (hm : L[i]? = some (own v e n sz vs)) : ∃ A cap, v = .slice A n cap ∧ n ≤ cap ∧ cap ≤ 9223372036854775807 := by
  obtain ⟨_, A, cap, h, h1, h2, _⟩ := hs.slice (Has.mem (List.mem_of_getElem? hm) own_sliceAt)
  exact ⟨A, cap, h, h1, h2⟩
theorem slice_form {v : Value} {n sz : Nat} {vs : List Value} {F : PH} (h : sliceAt v n sz vs F) : ∃ A c, v = .slice A n c ∧ n ≤ c ∧ c ≤ 9223372036854775807 := by
  obtain ⟨_, A, c, rfl, h1, h2, _⟩ := h; exact ⟨A, c, rfl, h1, h2⟩
end Go.Proofs.YthjnefpnnifjiaaDoor
