/- A range over a function, for lists of assertions: the record and its blocks as assertions; a round's frame walked by the plain rules. -/
import Derived.Test.YtimknlabhhopcaaDir
import Derived.Test.YtimknlabhhopcaaPk
import Derived.OrdersIn
import Derived.TacticsIn
import Derived.RangeFuncIn
import Derived.RangeFuncLeaves
import Derived.RangeFuncRecord
import Derived.RangeFuncSeq
set_option linter.unusedVariables false
set_option linter.unusedSimpArgs false
namespace Go.Proofs.Ytimknlabhhopcaa
open Go.RowKit
/-- The fence that lets all in; of an activation, or of a round's frame. -/
def wideR (ro : Option Nat) : Fence := { Fence.wide with round := ro }
theorem wideR_none : wideR none = Fence.wide := rfl
theorem wideR_in (l : Nat) : Fence.wide.inRound l = wideR (some l) := rfl
section
variable {P : Program} {ops : Array Oper} {Q : Exit → Act → World → Prop} {a : Act} {W w : World} {rest : List Oper} {o : Oper} {K : Act → World → Prop} {L M : List HP} {n : Nat} {ro : Option Nat}
theorem callsIn_wideR {f : FuncId} {args : Array Value} {R : Ending → World → Prop} : CallsIn (wideR ro) n P f args w R ↔ Calls P f args w R :=
  (show CallsIn (wideR ro) n P f args w R ↔ CallsIn Fence.wide n P f args w R from Iff.rfl).trans callsIn_wide
theorem rowsIn_wideR {r : String} {args : Array Value} {R : Value → World → Prop} (h : Rows P r args w R) : RowsIn (wideR ro) n P r args w R := fun c cs _ =>
  let ⟨v, w', hr, hs⟩ := h c cs
  ⟨v, w', hr, (show StepsIn (Machine.fenced P Fence.wide) P _ _ from stepsIn_wide.2 hs)⟩
theorem opIn_of_op (hd : ∀ c, o.op ≠ .defer c) (h : o.wp P a w K Q) : o.wpIn (wideR ro) n P a w K Q := by
  unfold Oper.wpIn
  unfold Oper.wp at h
  refine ⟨fun _ _ => trivial, ?_⟩
  rw [Oper.semAt_eq _ _ _ hd]
  generalize (execOp a.eval o).run P w = r at h
  have h0 : (wideR ro).depth.isSome = true → 1 ≤ n := fun h => by simp [wideR, Fence.wide] at h
  cases r with
  | ok x w' =>
    cases x <;> simp only [Oper.upon, Oper.uponIn] at h ⊢
    all_goals first
      | exact h
      | exact ⟨h0, callsIn_wideR.2 h⟩
      | exact ⟨h0, rowsIn_wideR h⟩
      | exact h.elim
  | halt x w' => cases x <;> simp only [Oper.upon, Oper.uponIn] at h ⊢ <;> exact h
/-- No operation of a list is a 'defer'. -/
def noDefer (l : List Oper) : Bool := l.all fun o => match o.op with | .defer _ => false | _ => true
theorem noDefer_mem {l : List Oper} (h : noDefer l = true) {o : Oper} (ho : o ∈ l) : ∀ c, o.op ≠ .defer c := fun c e => by
  have := List.all_eq_true.1 h o ho
  simp [e] at this
/-- A step of a list inside the fence, by a plain rule. -/
theorem wplIn (hd : (match o.op with | .defer _ => false | _ => true) = true) (hwant : Region.wanted o (yielded ops a.tmps) = true)
    (h : ∀ K : Act → World → Prop, (∀ a w, wpListIn (wideR ro) n P ops Q rest a w → K a w) → o.wp P a w K Q) : wpListIn (wideR ro) n P ops Q (o :: rest) a w :=
  wpListIn_step fun K hK => by
    rw [if_pos hwant]
    exact opIn_of_op (fun c e => by rw [e] at hd; cases hd) (h K hK)
theorem wplW (hd : (match o.op with | .defer _ => false | _ => true) = true) (hwant : Region.wanted o (yielded ops a.tmps) = true)
    (h : ∀ K : Act → World → Prop, (∀ a w, wpListIn Fence.wide n P ops Q rest a w → K a w) → o.wp P a w K Q) : wpListIn Fence.wide n P ops Q (o :: rest) a w :=
  wplIn (ro := none) hd hwant h
theorem wpListIn_of_list (hno : ¬ LetsOut Q) : ∀ (l : List Oper) (a : Act) (w : World), noDefer l = true → wpList P ops Q l a w → wpListIn (wideR ro) n P ops Q l a w
  | [], _, _, _, h => h
  | o :: l, a, w, hd, h => by
    have hdl : noDefer l = true := by simp only [noDefer, List.all_cons, Bool.and_eq_true] at hd ⊢; exact hd.2
    unfold wpList at h
    unfold wpListIn
    split
    · rename_i hw
      rw [if_pos hw] at h
      rcases h with h | h
      · exact Oper.wpIn_mono (fun a w => wpListIn_of_list hno l a w hdl) (opIn_of_op (noDefer_mem hd List.mem_cons_self) h)
      · exact absurd h.2 hno
    · rename_i hw
      rw [if_neg hw] at h
      exact ⟨fun _ _ => trivial, wpListIn_of_list hno l _ w hdl h⟩
theorem wpOpIn_of_op {i : Nat} (hno : ¬ LetsOut Q) (hd : noDefer ops.toList = true) (h : wpOp P ops Q i K a w) : wpOpIn (wideR ro) n P ops Q i K a w := by
  unfold wpOp at h
  unfold wpOpIn
  split
  · simpa [*] using h
  · rename_i o ho
    simp only [ho] at h
    split
    · rename_i hw
      rw [if_pos hw] at h
      rcases h with h | h
      · exact opIn_of_op (noDefer_mem hd (by obtain ⟨hlt, e⟩ := Array.getElem?_eq_some_iff.1 ho; rw [← e]; simp)) h
      · exact absurd h.2 hno
    · rename_i hw
      rw [if_neg hw] at h
      exact ⟨fun _ _ => trivial, h⟩
theorem wpAnyIn_of_any {md : Region.Mode} (hno : ¬ LetsOut Q) (hd : noDefer ops.toList = true) : ∀ (fuel : Nat) (listed : Array Bool) (a : Act) (w : World), wpAny P md ops Q fuel listed a w → wpAnyIn (wideR ro) n P md ops Q fuel listed a w
  | 0, _, _, _, h => h
  | fuel + 1, listed, a, w, h => ⟨h.1, fun i hi => wpOpIn_mono (fun a w => wpAnyIn_of_any hno hd fuel _ a w) (wpOpIn_of_op hno hd (h.2 i hi))⟩
/-- A region that draws its order, inside the fence, along a tree. -/
theorem wpIn_region_tree {id : Nat} (S : World → Prop) (t : DTree) (hm : P.follows .mixedOrders = true) (hs : Region.noSelect ops = true) (hd : noDefer ops.toList = true) (hB : dirB ops t (Array.replicate ops.size false) = true) (hQ : ∀ c a d v w, Q (.panic c) (Act.put a d v) w → Q (.panic c) a w) (hno : ¬ LetsOut Q)
    (hS : S w.drew) (h : wpTree P ops Q S t a w.drew) : (Code.region id ops true).wpIn (wideR ro) n P Q a w :=
  wpIn_region_any hm (wpAnyIn_of_any hno hd _ _ _ _ (wpAny_of_held _ _ _ _ (wpTree_sound hs hQ _ t _ a _ (by simp [left]) hB hS h)))
theorem wpIn_region_plain {id : Nat} (hd : noDefer ops.toList = true) (hno : ¬ LetsOut Q) (h : wpList P ops Q ops.toList a w) : (Code.region id ops false).wpIn (wideR ro) n P Q a w :=
  wpIn_region_list (wpListIn_of_list hno _ _ _ hd h)
/-! The record and its blocks. -/
theorem Sat.put (h : Sat W w L) {i b : Nat} {o : Obj} (hi : L[i]? = some (blk b o)) (o' : Obj) : Sat W (w.putObj b o') (L.set i (blk b o')) := by
  obtain ⟨h1, h2, h3, F, hF, hw⟩ := h
  obtain ⟨G, R, gd, rfl, rfl, hB⟩ := st_set hi hF
  have hg : w.heap[b]? = some o := hw b _ (by simp [PH.or, one])
  have hlt := lt_of_block hg
  have hR : R b = none := (gd b).resolve_left (by simp [one])
  refine ⟨h1, h2, h3, _, hB (blk b o') _ rfl (fun c => ?_), fun c p e => ?_⟩
  · by_cases hc : c = b
    · subst hc; exact .inr hR
    · left; simp [one, hc]
  · simp only [PH.or, one] at e
    by_cases hc : c = b
    · subst hc
      simp at e; subst e
      exact World.putObj_heap_same hlt
    · simp [hc] at e
      exact (World.putObj_heap_other hc).trans (hw c p (by simp only [PH.or, one, if_neg hc]; exact e))
/-- A loop's record. -/
def recOf (fn : FuncId) (tmps : Array Value) (ps : Array Tmp) (assign body : Code) (D : Nat) (st : LoopState) (pe : Option Code) : Loop := { state := st, pending := pe, fn, tmps, params := ps, assign, body, defers := D }
/-- A range over a function: the record is laid, and the block for its deferred calls; the function is called with yield; behind it the loop's code goes on. -/
theorem wp_rangeFunc_sat {g : Operand} {ps : Array Tmp} {assign body : Code} {gf : Nat} {lb : Array Value} (hs : Sat W w L) (hg : a.eval g = .func (.func gf) #[] lb) (eg : ∀ args w, (callFunc gf args).run P w = .ok (.enter gf args) w)
    (h : ∀ (fn : FuncId) (l D : Nat) (w1 : World), Sat W w1 (blk l (.loop (recOf fn a.tmps ps assign body D .ready none)) :: blk D (.deferred (some [])) :: L) →
      CallsIn Fence.wide 0 P gf (#[.func (.yield l) #[] #[]] ++ lb) w1 fun e w2 => (∃ v, e = .returned v) ∧ ∃ L', Sat W w2 (blk l (.loop (recOf fn a.tmps ps assign body D .ready none)) :: blk D (.deferred (some [])) :: L') ∧
        (∀ w3, Sat W w3 (blk D (.deferred (some [])) :: L') → Q .normal { a with defers := { target := .collected D, args := #[] } :: a.defers } w3)) :
    (Code.rangeFunc g ps assign body).wp P Q a w := by
  refine (wpIn_wide (n := 0)).1 (wpIn_rangeFunc (F := Fence.wide) ?_)
  intro fn _
  have hs1 := (hs.alloc (.deferred (some []))).alloc (.loop (recOf fn a.tmps ps assign body w.heap.size .ready none))
  rw [World.size_alloc] at hs1
  obtain ⟨W1, hW1⟩ : ∃ W1, (w.alloc (.deferred (some []))).alloc (.loop (recOf fn a.tmps ps assign body w.heap.size .ready none)) = W1 := ⟨_, rfl⟩
  rw [hW1] at hs1
  refine ⟨w.heap.size + 1, [{ target := .collected w.heap.size, args := #[] }], W1, { target := .fn (.func gf) lb, args := #[.func (.yield (w.heap.size + 1)) #[] #[]] }, W1, gf, #[.func (.yield (w.heap.size + 1)) #[] #[]] ++ lb, W1, by rw [← hW1]; exact run_enterLoop_outer _ _ _ _ _, ?_, fun _ _ => trivial, ?_, fun h => ?_, ?_⟩
  · simp only [resolve, hg]
    simp [go_sem]
  · simp [invoke, go_sem, eg]
  · simp [Fence.wide] at h
  · refine (h fn _ _ _ hs1).mono ?_
    rintro e w2 ⟨⟨v, rfl⟩, L', hs2, hq⟩
    have hl : w2.heap[w.heap.size + 1]? = some (.loop (recOf fn a.tmps ps assign body w.heap.size .ready none)) := hs2.get List.mem_cons_self
    refine ⟨none, _, run_endLoop hl (by simp [recOf]), ?_⟩
    exact hq _ ((hs2.put (i := 0) rfl _).tail)
/-- One round. -/
theorem yield_sat {fn : FuncId} {tmps : Array Value} {p : Tmp} {assign body : Code} {l D : Nat} {A : HP} {v : Value} {a₁ : Act} {R : Ending → World → Prop}
    (hs : Sat W w (A :: blk l (.loop (recOf fn tmps #[p] assign body D .ready none)) :: M))
    (hassign : ∀ (K : Act → World → Prop) (w : World), K a₁ w → assign.wpIn (Fence.wide.inRound l) 0 P (Exit.then K (fun _ _ _ => False)) { tmps := tmps.setIfInBounds p v, defers := [] } w)
    (hbody : ∀ w2, Sat W w2 (A :: blk l (.loop (recOf fn tmps #[p] assign body D .busy none)) :: M) → body.wpIn (Fence.wide.inRound l) 0 P (roundPost P l R) a₁ w2) :
    YieldAt Fence.wide (0 - 1) P l #[v] w R := by
  have hl : w.heap[l]? = some (.loop (recOf fn tmps #[p] assign body D .ready none)) := hs.get (List.mem_cons_of_mem _ List.mem_cons_self)
  refine ⟨fn, _, assign, body, run_yield hl rfl, roundIn_of_wpIn trivial ?_⟩
  have e : (#[p].zip #[v]).foldl (fun tmps (x : Tmp × Value) => tmps.setIfInBounds x.1 x.2) tmps = tmps.setIfInBounds p v := by simp
  show Code.wpIn _ _ _ _ _ { tmps := (#[p].zip #[v]).foldl (fun tmps (x : Tmp × Value) => tmps.setIfInBounds x.1 x.2) tmps, defers := [] } w
  rw [e]
  exact hassign (fun a₁ w₁ => ∃ w₂, (Instr.beginRound l).run P w₁ = .ok () w₂ ∧ body.wpIn (Fence.wide.inRound l) 0 P (roundPost P l R) a₁ w₂) _ ⟨_, run_beginRound hl rfl, hbody _ (hs.put (i := 1) rfl _)⟩
theorem round_end {fn : FuncId} {tmps : Array Value} {ps : Array Tmp} {assign body : Code} {l D : Nat} {a₁ : Act} {R : Ending → World → Prop} (k : Nat) (hs : Sat W w L) (hk : L[k]? = some (blk l (.loop (recOf fn tmps ps assign body D .busy none))))
    (h : ∀ w', Sat W w' (L.set k (blk l (.loop (recOf fn tmps ps assign body D .ready none)))) → R (.returned (.bool true)) w') : roundPost P l R .normal a₁ w := by
  have hl := hs.get (List.mem_of_getElem? hk)
  exact ⟨_, _, run_endRound none hl, h _ (hs.put hk _)⟩
theorem round_endB {id : Nat} {fn : FuncId} {tmps : Array Value} {ps : Array Tmp} {assign body : Code} {l D : Nat} {a₁ : Act} {R : Ending → World → Prop} (k : Nat) (hs : Sat W w L) (hk : L[k]? = some (blk l (.loop (recOf fn tmps ps assign body D .busy none))))
    (h : ∀ w', Sat W w' (L.set k (blk l (.loop (recOf fn tmps ps assign body D .ready none)))) → R (.returned (.bool true)) w') : Exit.inBlock id (roundPost P l R) .normal a₁ w := round_end (a₁ := a₁) k hs hk h
end
end Go.Proofs.Ytimknlabhhopcaa
