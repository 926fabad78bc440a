/- Assertions picked out of a list, and lists of assertions found in others, whatever their order. Plain lemmas; no program in sight. -/
import Derived.Test.YthjnefpnnifjiaaDoorSl
set_option linter.unusedVariables false
set_option linter.unusedSimpArgs false
namespace Go.Proofs.YthjnefpnnifjiaaDoor
open Go.RowKit
/-- M is A and L, A somewhere. -/
inductive Pick (A : HP) : List HP → List HP → Prop where
  | here {L : List HP} : Pick A (A :: L) L
  | there {B : HP} {L M : List HP} (h : Pick A L M) : Pick A (B :: L) (B :: M)
theorem Pick.perm {A : HP} {M L : List HP} (h : Pick A M L) : M.Perm (A :: L) := by
  induction h with
  | here => exact List.Perm.refl _
  | there _ ih => exact (ih.cons _).trans (List.Perm.swap _ _ _)
/-- All of L is among M. -/
inductive Pack : List HP → List HP → Prop where
  | refl {L : List HP} : Pack L L
  | nil {M : List HP} : Pack [] M
  | cons {A : HP} {L M M' : List HP} (h : Pick A M M') (k : Pack L M') : Pack (A :: L) M
  | drop {A : HP} {L M : List HP} (k : Pack L M) : Pack L (A :: M)
theorem Pick.mem {A : HP} {M L : List HP} (h : Pick A M L) : A ∈ M := h.perm.symm.subset List.mem_cons_self
namespace Sat
variable {W w : World} {L M : List HP}
theorem pick {A : HP} (h : Sat W w M) (p : Pick A M L) : Sat W w (A :: L) := h.perm p.perm
theorem under {A : HP} (h : Sat W w M) (k : ∀ w, Sat W w M → Sat W w L) : Sat W w L := k w h
theorem cons_mono {A : HP} (h : Sat W w (A :: M)) (k : ∀ F, st M F → ∃ G, st L G ∧ G.le F) : Sat W w (A :: L) := by
  obtain ⟨h1, h2, h3, F, ⟨F1, F2, hd, rfl, ha, hr⟩, hw⟩ := h
  obtain ⟨G, hG, hle⟩ := k F2 hr
  refine ⟨h1, h2, h3, F1.or G, ⟨F1, G, fun b => ?_, rfl, ha, hG⟩, fun b o e => hw b o ?_⟩
  · rcases hd b with h | h
    · exact .inl h
    · right
      cases hg : G b with
      | none => rfl
      | some o => rw [hle b o hg] at h; cases h
  · simp only [PH.or] at e ⊢
    cases hf : F1 b with
    | some o' => rw [hf] at e; exact e
    | none => rw [hf] at e; exact hle b o e
end Sat
theorem Pack.st {L M : List HP} (h : Pack L M) : ∀ F, st M F → ∃ G, st L G ∧ G.le F := by
  induction h with
  | refl => exact fun F h => ⟨F, h, PH.le_refl F⟩
  | nil => exact fun F _ => ⟨PH.emp, rfl, fun b o e => by cases e⟩
  | cons p _ ih =>
    intro F hF
    obtain ⟨F1, F2, hd, rfl, ha, hr⟩ := st_perm p.perm hF
    obtain ⟨G, hG, hle⟩ := ih F2 hr
    refine ⟨F1.or G, ⟨F1, G, fun b => ?_, rfl, ha, hG⟩, fun b o e => ?_⟩
    · rcases hd b with h | h
      · exact .inl h
      · right
        cases hg : G b with
        | none => rfl
        | some o => rw [hle b o hg] at h; cases h
    · simp only [PH.or] at e ⊢
      cases hf : F1 b with
      | some o' => rw [hf] at e; exact e
      | none => rw [hf] at e; exact hle b o e
  | drop _ ih =>
    rintro F ⟨F1, F2, hd, rfl, ha, hr⟩
    obtain ⟨G, hG, hle⟩ := ih F2 hr
    exact ⟨G, hG, PH.le_trans hle (PH.le_or_right hd)⟩
theorem Sat.pack {W w : World} {L M : List HP} (h : Sat W w M) (p : Pack L M) : Sat W w L := by
  obtain ⟨h1, h2, h3, F, hF, hw⟩ := h
  obtain ⟨G, hG, hle⟩ := p.st F hF
  exact ⟨h1, h2, h3, G, hG, fun b o e => hw b o (hle b o e)⟩
theorem Has.of {A : HP} {L : List HP} {φ : PH → Prop} (hm : A ∈ L) (h : ∀ F, A F → φ F) : Has L φ := Has.mem hm h
theorem Has.pack {L M : List HP} {φ : PH → Prop} (h : Has L φ) (p : ∀ A, A ∈ L → A ∈ M) : Has M φ := let ⟨A, hm, hA⟩ := h; ⟨A, p A hm, hA⟩
/-- The class of all worlds. -/
def trueS (_ : World) : Prop := True
theorem Sat.trueS {W w : World} {L : List HP} (_ : Sat W w L) : trueS w := True.intro
/-- All that a world had is there. -/
def oldS (W w : World) : Prop := ∀ (b : Nat) (o : Obj), W.heap[b]? = some o → w.heap[b]? = some o
theorem Sat.oldS {W w : World} {L : List HP} (h : Sat W w L) (hold : old W ∈ L) : oldS W w := by
  obtain ⟨_, _, _, F, hF, hw⟩ := h
  obtain ⟨G, hG, hle⟩ := st_mem hold hF
  cases hG
  exact fun b o e => hw b o (hle b o e)
theorem oldS.cell {W w : World} (h : oldS W w) {a : Addr} {v : Value} (k : W.cell? a = some v) : w.cell? a = some v := by
  unfold World.cell? at *
  cases hb : W.heap[a.block]? with
  | none => simp [hb] at k
  | some x => rw [h _ _ hb]; rw [hb] at k; exact k
theorem oldS.range {W w : World} (h : oldS W w) {b o : Nat} {vs : List Value} (k : W.rangeAt b o vs) : w.rangeAt b o vs := fun j v hv => h.cell (k j v hv)
theorem oldS.mono {W w : World} (h : oldS W w) {φ : PH → Prop} (k : φ (hp W)) (mono : ∀ F G : PH, F.le G → φ F → φ G) : φ (hp w) := mono _ _ (fun b o e => h b o e) k
end Go.Proofs.YthjnefpnnifjiaaDoor
