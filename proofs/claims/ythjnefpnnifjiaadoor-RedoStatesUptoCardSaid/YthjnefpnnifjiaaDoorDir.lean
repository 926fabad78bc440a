/- A region whose order is open, walked along a tree: what yields its value in every world of a class is taken first; the others as they may come up. -/
import Derived.Test.YthjnefpnnifjiaaDoorOp2
import Derived.OrdersHeld
import Derived.RegionTactic
set_option linter.unusedVariables false
set_option linter.unusedSimpArgs false
namespace Go.Proofs.YthjnefpnnifjiaaDoor
open Go.RowKit
inductive DTree where
  | done
  | take (i : Nat) (t : DTree)
  | all (l : List (Nat × DTree))
section
variable {P : Program} {ops : Array Oper} {Q : Exit → Act → World → Prop} {S : World → Prop}
mutual
def dirB (ops : Array Oper) : DTree → Array Bool → Bool
  | .done, listed => (Region.ready .any ops listed).isEmpty
  | .take i t, listed => (Region.ready .any ops listed).contains i && Region.free .any ops listed i && dirB ops t (listed.setIfInBounds i true)
  | .all l, listed => (Region.ready .any ops listed == l.map (·.1)) && !l.isEmpty && dirsB ops l listed
def dirsB (ops : Array Oper) : List (Nat × DTree) → Array Bool → Bool
  | [], _ => true
  | (i, t) :: l, listed => dirB ops t (listed.setIfInBounds i true) && dirsB ops l listed
end
mutual
def wpTree (P : Program) (ops : Array Oper) (Q : Exit → Act → World → Prop) (S : World → Prop) : DTree → Act → World → Prop
  | .done, a, w => Q .normal a w
  | .take i t, a, w => ∃ o, ops[i]? = some o ∧ ∃ v, YieldsIf P ops S o v a ∧ wpTree P ops Q S t (a.put o.dst v) w
  | .all l, a, w => wpTrees P ops Q S l a w
def wpTrees (P : Program) (ops : Array Oper) (Q : Exit → Act → World → Prop) (S : World → Prop) : List (Nat × DTree) → Act → World → Prop
  | [], _, _ => True
  | (i, t) :: l, a, w => wpOp P ops Q i (fun a' w' => S w' ∧ wpTree P ops Q S t a' w') a w ∧ wpTrees P ops Q S l a w
end
theorem wpTrees_mem : ∀ {l : List (Nat × DTree)} {a : Act} {w : World}, wpTrees P ops Q S l a w → ∀ x ∈ l, wpOp P ops Q x.1 (fun a' w' => S w' ∧ wpTree P ops Q S x.2 a' w') a w
  | [], _, _, _, x, hx => by cases hx
  | (i, t) :: l, a, w, h, x, hx => by
    rw [wpTrees] at h
    rcases List.mem_cons.1 hx with rfl | hx
    · exact h.1
    · exact wpTrees_mem h.2 x hx
theorem dirsB_mem : ∀ {l : List (Nat × DTree)} {listed : Array Bool}, dirsB ops l listed = true → ∀ x ∈ l, dirB ops x.2 (listed.setIfInBounds x.1 true) = true
  | [], _, _, x, hx => by cases hx
  | (i, t) :: l, listed, h, x, hx => by
    rw [dirsB, Bool.and_eq_true] at h
    rcases List.mem_cons.1 hx with rfl | hx
    · exact h.1
    · exact dirsB_mem h.2 x hx
/-- How many have not come up. -/
def left (listed : Array Bool) : Nat := (listed.toList.filter (!·)).length
theorem left_set {listed : Array Bool} {i : Nat} (h : listed.getD i true = false) : left (listed.setIfInBounds i true) + 1 = left listed := by
  have hi : i < listed.size := by
    rcases Nat.lt_or_ge i listed.size with h' | h'
    · exact h'
    · simp [Array.getElem?_eq_none h'] at h
  have hv : listed[i] = false := by simpa [hi] using h
  unfold left
  have key : ∀ (l : List Bool) (i : Nat), l[i]? = some false → ((l.set i true).filter (!·)).length + 1 = (l.filter (!·)).length := by
    intro l
    induction l with
    | nil => intro i h; simp at h
    | cons b l ih =>
      intro i h
      cases i with
      | zero => simp at h; subst h; simp
      | succ i =>
        have := ih i (by simpa using h)
        cases b <;> simp <;> omega
  have := key listed.toList i (by simp [hi, hv])
  simpa using this
theorem wpTree_sound (hs : Region.noSelect ops = true) (hQ : ∀ c a d v w, Q (.panic c) (Act.put a d v) w → Q (.panic c) a w) : ∀ (fuel : Nat) (t : DTree) (listed : Array Bool) (a : Act) (w : World), left listed ≤ fuel → dirB ops t listed = true → S w →
    wpTree P ops Q S t a w → wpAnyH P .any ops Q S fuel listed a w := by
  intro fuel
  induction fuel with
  | zero =>
    intro t listed a w hf hB hS h
    have hno : ∀ i, i ∉ Region.ready .any ops listed := fun i hi => by
      have := left_set (mem_ready.1 hi).1
      omega
    have hnil : Region.ready .any ops listed = [] := List.eq_nil_iff_forall_not_mem.2 hno
    cases t with
    | done => rw [wpTree] at h; exact ⟨hnil, h⟩
    | take i t => simp [dirB, hnil] at hB
    | all l =>
      simp only [dirB, hnil, Bool.and_eq_true] at hB
      cases l with
      | nil => simp at hB
      | cons x l => exact absurd hB.1.1 (by simp)
  | succ fuel ih =>
    intro t listed a w hf hB hS h
    cases t with
    | done =>
      rw [wpTree] at h
      exact wpAnyH_done (by simpa [dirB] using hB) h _
    | take i t =>
      rw [wpTree] at h
      obtain ⟨o, ho, v, hy, h⟩ := h
      simp only [dirB, Bool.and_eq_true] at hB
      obtain ⟨⟨hr, hfree⟩, hB'⟩ := hB
      have hl := left_set (mem_ready.1 (by simpa using hr)).1
      exact wpAnyH_take ho hs hfree hr (fun c a' w' hq => hQ c a' o.dst v w' hq) hy hS (ih t _ _ w (by omega) hB' hS h)
    | all l =>
      rw [wpTree] at h
      simp only [dirB, Bool.and_eq_true] at hB
      obtain ⟨⟨hr, hne⟩, hds⟩ := hB
      have hr' : Region.ready .any ops listed = l.map (·.1) := by simpa using hr
      refine wpAnyH_all hr' (by intro e; cases l with | nil => simp at hne | cons x l => simp at e) (fun i hi => ?_)
      obtain ⟨x, hx, rfl⟩ := List.mem_map.1 hi
      have hmem : x.1 ∈ Region.ready .any ops listed := by rw [hr']; exact hi
      have hl := left_set (mem_ready.1 hmem).1
      refine wpOp_mono (fun a' w' h' => ⟨h'.1, ih x.2 _ a' w' (by omega) (dirsB_mem hds x hx) h'.1 h'.2⟩) (wpTrees_mem h x hx)
theorem wp_region_tree {id : Nat} {a : Act} {w : World} (S : World → Prop) (t : DTree) (hm : P.follows .mixedOrders = true) (hs : Region.noSelect ops = true) (hB : dirB ops t (Array.replicate ops.size false) = true) (hQ : ∀ c a d v w, Q (.panic c) (Act.put a d v) w → Q (.panic c) a w)
    (hS : S w.drew) (h : wpTree P ops Q S t a w.drew) : (Code.region id ops true).wp P Q a w :=
  wp_region_held hm (wpTree_sound hs hQ _ t _ a _ (by simp [left]) hB hS h)
/-! ### The steps -/
theorem tree_done {a : Act} {w : World} (h : Q .normal a w) : wpTree P ops Q S .done a w := by rw [wpTree]; exact h
/-- As the quiet walk has it: what yields in whatever world of the class. -/
theorem tree_take {i : Nat} {t : DTree} {o : Oper} {a : Act} {w : World} (ho : ops[i]? = some o)
    (h : ∀ K : Act → Prop, (∀ a, wpTree P ops Q S t a w → K a) → if Region.wanted o (yielded ops a.tmps) then (∃ v, (∀ w, S w → match (execOp a.eval o).run P w with | .ok (.value u) w' => w' = w ∧ u = v | _ => False) ∧ K (a.put o.dst v)) else K (a.put o.dst undef)) :
    wpTree P ops Q S (.take i t) a w := by
  rw [wpTree]
  have := h _ (fun _ h => h)
  refine ⟨o, ho, ?_⟩
  split at this
  · rename_i hw
    obtain ⟨v, h1, h2⟩ := this
    refine ⟨v, .inl ⟨hw, fun w0 h0 => ?_⟩, h2⟩
    have := h1 w0 h0
    split at this
    · rename_i u w' hr
      rw [hr, this.1, this.2]
    · exact this.elim
  · rename_i hw
    exact ⟨undef, .inr ⟨by simpa using hw, rfl⟩, this⟩
theorem tree_take_val {i : Nat} {t : DTree} {o : Oper} {a : Act} {w : World} {v : Value} (ho : ops[i]? = some o) (hw : Region.wanted o (yielded ops a.tmps) = true) (hv : ∀ w, S w → (execOp a.eval o).run P w = .ok (.value v) w)
    (h : wpTree P ops Q S t (a.put o.dst v) w) : wpTree P ops Q S (.take i t) a w := by
  rw [wpTree]; exact ⟨o, ho, v, .inl ⟨hw, hv⟩, h⟩
theorem tree_load {i : Nat} {t : DTree} {o : Oper} {a : Act} {w : World} {v : Value} {T : TypeId} {x : Operand} {ad : Addr} (ho : ops[i]? = some o) (hw : Region.wanted o (yielded ops a.tmps) = true) (hop : o.op = .load T x) (hx : a.eval x = .pointer (some ad)) (hT : single P T = true) (hc : ∀ w, S w → w.cell? ad = some v)
    (h : wpTree P ops Q S t (a.put o.dst v) w) : wpTree P ops Q S (.take i t) a w :=
  tree_take_val ho hw (fun w hC => by simp [execOp, hop, hx, Instr.loadAt, Instr.sureAddr, loadVar, run_isAgg_single hT, hc w hC]) h
theorem tree_all {l : List (Nat × DTree)} {a : Act} {w : World} (h : wpTrees P ops Q S l a w) : wpTree P ops Q S (.all l) a w := by rw [wpTree]; exact h
theorem trees_nil {a : Act} {w : World} : wpTrees P ops Q S [] a w := by rw [wpTrees]; trivial
theorem trees_cons {i : Nat} {t : DTree} {l : List (Nat × DTree)} {o : Oper} {a : Act} {w : World} (ho : ops[i]? = some o)
    (h : ∀ K : Act → World → Prop, (∀ a w, S w → wpTree P ops Q S t a w → K a w) → if Region.wanted o (yielded ops a.tmps) = true then o.wp P a w K Q else (S w → K (a.put o.dst undef) w)) (hS : S w) (hl : wpTrees P ops Q S l a w) : wpTrees P ops Q S ((i, t) :: l) a w := by
  rw [wpTrees]
  refine ⟨wpOp_step ho (fun K hK => ?_), hl⟩
  have := h K (fun a w h1 h2 => hK a w ⟨h1, h2⟩)
  split
  · rename_i hw; rw [if_pos hw] at this; exact this
  · rename_i hw; rw [if_neg hw] at this; exact this hS
theorem tree_one {i : Nat} {t : DTree} {o : Oper} {a : Act} {w : World} (ho : ops[i]? = some o)
    (h : ∀ K : Act → World → Prop, (∀ a w, S w → wpTree P ops Q S t a w → K a w) → if Region.wanted o (yielded ops a.tmps) = true then o.wp P a w K Q else (S w → K (a.put o.dst undef) w)) (hS : S w) : wpTree P ops Q S (.all [(i, t)]) a w :=
  tree_all (trees_cons ho h hS trees_nil)
theorem trees_cons_yes {i : Nat} {t : DTree} {l : List (Nat × DTree)} {o : Oper} {a : Act} {w : World} (ho : ops[i]? = some o) (hw : Region.wanted o (yielded ops a.tmps) = true)
    (h : ∀ K : Act → World → Prop, (∀ a w, S w → wpTree P ops Q S t a w → K a w) → o.wp P a w K Q) (hS : S w) (hl : wpTrees P ops Q S l a w) : wpTrees P ops Q S ((i, t) :: l) a w :=
  trees_cons ho (fun K hK => by rw [if_pos hw]; exact h K hK) hS hl
theorem tree_two_yes {i j : Nat} {t u : DTree} {o q : Oper} {a : Act} {w : World} (ho : ops[i]? = some o) (hw : Region.wanted o (yielded ops a.tmps) = true) (hq : ops[j]? = some q) (hv : Region.wanted q (yielded ops a.tmps) = true) (hS : S w)
    (h : ∀ K : Act → World → Prop, (∀ a w, S w → wpTree P ops Q S t a w → K a w) → o.wp P a w K Q)
    (k : ∀ K : Act → World → Prop, (∀ a w, S w → wpTree P ops Q S u a w → K a w) → q.wp P a w K Q) : wpTree P ops Q S (.all [(i, t), (j, u)]) a w :=
  tree_all (trees_cons_yes ho hw h hS (trees_cons_yes hq hv k hS trees_nil))
theorem tree_one_yes {i : Nat} {t : DTree} {o : Oper} {a : Act} {w : World} (ho : ops[i]? = some o) (hw : Region.wanted o (yielded ops a.tmps) = true)
    (h : ∀ K : Act → World → Prop, (∀ a w, S w → wpTree P ops Q S t a w → K a w) → o.wp P a w K Q) (hS : S w) : wpTree P ops Q S (.all [(i, t)]) a w :=
  tree_one ho (fun K hK => by rw [if_pos hw]; exact h K hK) hS
end
end Go.Proofs.YthjnefpnnifjiaaDoor
