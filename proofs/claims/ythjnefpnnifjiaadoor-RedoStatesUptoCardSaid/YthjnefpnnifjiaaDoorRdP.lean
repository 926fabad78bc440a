/- Commits and states as plain data, and their bytes: no Go in it. -/
import Derived.Test.YthjnefpnnifjiaaDoorPackP
set_option linter.unusedVariables false
set_option linter.unusedSimpArgs false
namespace Go.Proofs.YthjnefpnnifjiaaDoor
structure RKey where
  kind : Int
  a : Int
  b : Int
deriving DecidableEq
def inI (n : Int) : Prop := -9223372036854775808 ≤ n ∧ n < 9223372036854775808
def RKey.ints (k : RKey) : List Int := [k.kind, k.a, k.b]
def RKey.Ok (k : RKey) : Prop := ∀ n ∈ k.ints, inI n
structure RWr where
  k : RKey
  v : List UInt8
deriving DecidableEq
structure RCl where
  k : RKey
  ts : Int
  v : List UInt8
deriving DecidableEq
structure RCm where
  ts : Int
  W : List RWr
structure RSt where
  last : Int
  epoch : Nat
  low : Nat
  L : List RCl
def tMax : Nat := 1000000000
def RWr.Ok (x : RWr) : Prop := x.k.Ok ∧ x.v.length ≤ tMax
def RCl.Ok (x : RCl) : Prop := x.k.Ok ∧ inI x.ts ∧ x.v.length ≤ tMax
structure RCm.Ok (c : RCm) : Prop where
  ts : inI c.ts
  ws : ∀ x ∈ c.W, x.Ok
structure RSt.Ok (s : RSt) : Prop where
  last : inI s.last
  epoch : s.epoch < 4294967296
  low : s.low < 4294967296
  ls : ∀ x ∈ s.L, x.Ok
/-- A number as one of 32 bits. -/
def u32n (n : Int) : Nat := (n % 4294967296).toNat
theorem u32n_lt (n : Int) : u32n n < 4294967296 := by unfold u32n; omega
theorem u32n_nat (n : Nat) (h : n < 4294967296) : u32n (n : Int) = n := by unfold u32n; omega
def encI (l : List Int) : List UInt8 := (l.map fun n => be 4 (u32n n)).flatten
def encK (k : RKey) : List UInt8 := encI k.ints
def encW (x : RWr) : List UInt8 := encK x.k ++ text x.v
def encC (x : RCl) : List UInt8 := encK x.k ++ be 8 (i63 x.ts) ++ text x.v
def encWs (l : List RWr) : List UInt8 := (l.map encW).flatten
def encCs (l : List RCl) : List UInt8 := (l.map encC).flatten
def encCm (c : RCm) : List UInt8 := be 8 (i63 c.ts) ++ be 4 (u32n c.W.length) ++ encWs c.W
def encSt (s : RSt) : List UInt8 := be 8 (i63 s.last) ++ be 4 s.epoch ++ be 4 s.low ++ be 4 (u32n s.L.length) ++ encCs s.L
theorem encI_snoc (l : List Int) (i : Nat) (h : i < l.length) : encI (l.take (i + 1)) = encI (l.take i) ++ be 4 (u32n l[i]) := by
  unfold encI
  rw [List.take_succ_eq_append_getElem h]
  simp only [List.map_append, List.flatten_append, List.map_cons, List.map_nil, List.flatten_cons, List.flatten_nil, List.append_nil]
theorem encI_len (l : List Int) : (encI l).length = 4 * l.length := by
  unfold encI
  induction l with
  | nil => rfl
  | cons x l ih => simp only [List.map_cons, List.flatten_cons, List.length_append, List.length_cons, be_length] at ih ⊢; omega
theorem encK_len (k : RKey) : (encK k).length = 12 := encI_len k.ints
theorem encWs_snoc (l : List RWr) (i : Nat) (h : i < l.length) : encWs (l.take (i + 1)) = encWs (l.take i) ++ encW l[i] := by
  unfold encWs
  rw [List.take_succ_eq_append_getElem h]
  simp only [List.map_append, List.flatten_append, List.map_cons, List.map_nil, List.flatten_cons, List.flatten_nil, List.append_nil]
theorem encCs_snoc (l : List RCl) (i : Nat) (h : i < l.length) : encCs (l.take (i + 1)) = encCs (l.take i) ++ encC l[i] := by
  unfold encCs
  rw [List.take_succ_eq_append_getElem h]
  simp only [List.map_append, List.flatten_append, List.map_cons, List.map_nil, List.flatten_cons, List.flatten_nil, List.append_nil]
theorem text_len (l : List UInt8) : (text l).length ≤ 2 * l.length + 2 := by
  unfold text
  have := esc_len l
  simp; omega
theorem encWs_len (l : List RWr) (h : ∀ x ∈ l, x.Ok) : (encWs l).length ≤ 2000000014 * l.length := by
  unfold encWs
  induction l with
  | nil => simp
  | cons x l ih =>
    have h1 := (h x List.mem_cons_self).2
    have h2 := text_len x.v
    have h3 := encK_len x.k
    have h4 := ih fun y hy => h y (List.mem_cons_of_mem _ hy)
    simp only [List.map_cons, List.flatten_cons, List.length_append, List.length_cons, encW] at h4 ⊢
    unfold tMax at h1
    omega
theorem encCs_len (l : List RCl) (h : ∀ x ∈ l, x.Ok) : (encCs l).length ≤ 2000000022 * l.length := by
  unfold encCs
  induction l with
  | nil => simp
  | cons x l ih =>
    have h1 := (h x List.mem_cons_self).2.2
    have h2 := text_len x.v
    have h3 := encK_len x.k
    have h4 := ih fun y hy => h y (List.mem_cons_of_mem _ hy)
    have h5 := be_length 8 (i63 x.ts)
    simp only [List.map_cons, List.flatten_cons, List.length_append, List.length_cons, encC] at h4 ⊢
    unfold tMax at h1
    omega
end Go.Proofs.YthjnefpnnifjiaaDoor
