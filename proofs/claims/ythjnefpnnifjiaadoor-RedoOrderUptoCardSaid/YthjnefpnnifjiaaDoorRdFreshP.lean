/- Whether a cell is among others: plain laws; operations that are passed in regions with open order. -/
import Derived.Test.YthjnefpnnifjiaaDoorRdTidy
import Derived.Test.YthjnefpnnifjiaaDoorRdKin
import Derived.Test.YthjnefpnnifjiaaDoorRdRef3
set_option linter.unusedVariables false
set_option linter.unusedSimpArgs false
namespace Go.Proofs.YthjnefpnnifjiaaDoor
open Go.RowKit
section
variable {P : Program} {ops : Array Oper} {Q : Exit → Act → World → Prop} {S : World → Prop}
theorem tree_skip {i : Nat} {t : DTree} {o : Oper} {a : Act} {w : World} (ho : ops[i]? = some o) (hw : Region.wanted o (yielded ops a.tmps) = false) (h : wpTree P ops Q S t (a.put o.dst undef) w) : wpTree P ops Q S (.take i t) a w :=
  tree_take ho (fun K hK => by rw [if_neg (by simp [hw])]; exact hK _ h)
theorem tree_one_skip {i : Nat} {t : DTree} {o : Oper} {a : Act} {w : World} (ho : ops[i]? = some o) (hw : Region.wanted o (yielded ops a.tmps) = false) (hS : S w) (h : wpTree P ops Q S t (a.put o.dst undef) w) : wpTree P ops Q S (.all [(i, t)]) a w :=
  tree_one ho (fun K hK => by rw [if_neg (by simp [hw])]; exact fun _ => hK _ _ hS h) hS
end
theorem run_field3 (l : Int) (e o : Nat) (A : Option Addr) (n c : Nat) (w : World) : Sem.run Tryd.prog (Instr.field 39 (.agg #[.int .i64 l, .int .u32 (e : Nat), .int .u32 (o : Nat), .slice A n c]) 3) w = .ok (.slice A n c) w := by
  kernel_rfl
def hit (x : RWr) (ts : Int) (y : RCl) : Bool := keySame y.k x.k && ((y.v == x.v) && (y.ts == ts))
def found (x : RWr) (ts : Int) (l : List RCl) : Bool := l.any (hit x ts)
theorem found_snoc (x : RWr) (ts : Int) (l : List RCl) (i : Nat) (h : i < l.length) : found x ts (l.take (i + 1)) = (found x ts (l.take i) || hit x ts l[i]) := by
  unfold found
  rw [List.take_succ_eq_append_getElem h, List.any_append]
  simp
theorem found_of {x : RWr} {ts : Int} {l : List RCl} (h : (⟨x.k, ts, x.v⟩ : RCl) ∈ l) : found x ts l = true := by
  unfold found
  rw [List.any_eq_true]
  refine ⟨_, h, ?_⟩
  unfold hit
  rw [(keySame_iff _ _).2 rfl]
  simp
/-- What the law says of a tidy commit that is applied to what is fresh. -/
theorem fresh_law {l : List RCl} (h : Srt l) (x : RCm) (hx : x.Tidy) : Told ([⟨0, graphL l⟩] ++ [x]) (applyL (freshL l) x.ts x.W) :=
  told_apply (told_fresh h) x ((rise_iff _).1 hx.rise) (fun e he => by
    rw [List.mem_singleton] at he
    subst he
    have := hx.ts
    show (0 : Int) ≠ x.ts
    omega)
theorem fresh_found {l : List RCl} (h : Srt l) (x : RCm) (hx : x.Tidy) (w : RWr) (hw : w ∈ x.W) : found w x.ts (applyL (freshL l) x.ts x.W) = true := by
  have ht := fresh_law h x hx
  have h1 := hx.ts
  refine found_of ((ht.mem _).2 ⟨⟨x, by simp, rfl, hw⟩, fun d hd _ => ?_⟩)
  rw [List.mem_append, List.mem_singleton, List.mem_singleton] at hd
  rcases hd with rfl | rfl
  · show (0 : Int) ≤ x.ts
    omega
  · exact Int.le_refl _
theorem real_spec' (W w : World) (L : List HP) (hs : Sat W w L) (s : RSt) (v : Value) (hv : Has L (sliceAt v s.L.length 5 (csC s.L))) (hn : s.L.length ≤ 1000000) :
    Calls Tryd.prog 18 #[.agg (stC s v).toArray] w fun e w' => ∃ v', e = .returned (.agg #[.int .i64 s.last, .int .u32 (s.epoch : Nat), .int .u32 (s.low : Nat), v']) ∧ Sat W w' (own v' 107 s.L.length 5 (csC s.L) :: L) := real_spec W w L hs s v hv hn
end Go.Proofs.YthjnefpnnifjiaaDoor
