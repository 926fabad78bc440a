/- In whatever order commits come, the same are the cells: plain laws, no walk. -/
import Derived.Test.YthjnefpnnifjiaaDoorRdTakeP
import Derived.Test.YthjnefpnnifjiaaDoorRdGraph
set_option linter.unusedVariables false
set_option linter.unusedSimpArgs false
namespace Go.Proofs.YthjnefpnnifjiaaDoor
theorem lessK_iff (a b : RKey) : lessK a b = true ↔ a.kind < b.kind ∨ (a.kind = b.kind ∧ (a.a < b.a ∨ (a.a = b.a ∧ a.b < b.b))) := by
  unfold lessK
  repeat' split
  all_goals simp only [decide_eq_true_eq]; omega
theorem lessK_irr (a : RKey) : ¬ lessK a a = true := by rw [lessK_iff]; omega
theorem lessK_trans {a b c : RKey} (h1 : lessK a b = true) (h2 : lessK b c = true) : lessK a c = true := by rw [lessK_iff] at *; omega
theorem lessK_asymm {a b : RKey} (h1 : lessK a b = true) : ¬ lessK b a = true := fun h => lessK_irr a (lessK_trans h1 h)
theorem lessK_tri (a b : RKey) : lessK a b = true ∨ a = b ∨ lessK b a = true := by
  obtain ⟨x, y, z⟩ := a
  obtain ⟨x', y', z'⟩ := b
  rw [lessK_iff, lessK_iff, RKey.mk.injEq]
  dsimp only
  omega
def Rise (ks : List RKey) : Prop := ks.Pairwise fun a b => lessK a b = true
theorem rise_iff : ∀ ks : List RKey, riseK ks = true ↔ Rise ks
  | [] => by simp [riseK, Rise]
  | [a] => by simp [riseK, Rise]
  | a :: b :: t => by
    have ih := rise_iff (b :: t)
    unfold Rise at ih ⊢
    rw [riseK, Bool.and_eq_true, ih]
    constructor
    · rintro ⟨h1, h2⟩
      refine List.pairwise_cons.2 ⟨fun y hy => ?_, h2⟩
      rw [List.mem_cons] at hy
      rcases hy with rfl | hy
      · exact h1
      · exact lessK_trans h1 ((List.pairwise_cons.1 h2).1 y hy)
    · intro h
      obtain ⟨h1, h2⟩ := List.pairwise_cons.1 h
      exact ⟨h1 b List.mem_cons_self, h2⟩
def Srt (l : List RCl) : Prop := l.Pairwise fun x y => lessK x.k y.k = true
theorem srt_iff (l : List RCl) : ordB l = true ↔ Srt l := by
  unfold ordB Srt
  rw [rise_iff]
  unfold Rise
  rw [List.pairwise_map]
/-- A cell put among others, by the list's form. -/
def ins (c : RCl) : List RCl → List RCl
  | [] => [c]
  | x :: t => if lessK x.k c.k = true then x :: ins c t else if x.k = c.k then (if x.ts ≤ c.ts then c :: t else x :: t) else c :: x :: t
theorem putK_ins (c : RCl) : ∀ l, putK l c = ins c l
  | [] => by unfold putK; rw [dif_neg (by simp [idxK])]; rfl
  | x :: t => by
    have ih := putK_ins c t
    rw [ins]
    by_cases hx : lessK x.k c.k = true
    · rw [if_pos hx, ← ih]
      have e : idxK c.k (x :: t) = idxK c.k t + 1 := by rw [idxK, if_pos hx]
      by_cases hl : idxK c.k t < t.length
      · rw [putK_at e (by simp; omega), putK_at rfl hl]
        simp only [List.getElem_cons_succ, List.set_cons_succ, List.take_succ_cons, List.drop_succ_cons, List.cons_append]
        split
        · split <;> rfl
        · rfl
      · rw [putK_new (l := x :: t) (by rw [e, List.length_cons]; omega), putK_new hl]; rfl
    · rw [if_neg hx]
      have e : idxK c.k (x :: t) = 0 := by rw [idxK, if_neg hx]
      rw [putK_at e (by simp)]
      simp only [List.getElem_cons_zero, List.set_cons_zero, List.take_zero, List.drop_zero, List.nil_append]
      by_cases hk : x.k = c.k
      · rw [if_pos hk, if_pos ((keySame_iff _ _).2 hk)]
      · rw [if_neg hk, if_neg (fun h => hk ((keySame_iff _ _).1 h))]
theorem srt_ins {c : RCl} : ∀ {l : List RCl}, Srt l → Srt (ins c l) ∧ ∀ y, y ∈ ins c l → (y ∈ l ∨ y.k = c.k)
  | [], h => ⟨by simp [ins, Srt], fun y hy => by simp [ins] at hy; exact .inr (by rw [hy])⟩
  | x :: t, h => by
    have h0 := List.pairwise_cons.1 h
    obtain ⟨ih1, ih2⟩ := srt_ins (c := c) h0.2
    rw [ins]
    by_cases hx : lessK x.k c.k = true
    · rw [if_pos hx]
      refine ⟨List.pairwise_cons.2 ⟨fun y hy => ?_, ih1⟩, fun y hy => ?_⟩
      · rcases ih2 y hy with h2 | h2
        · exact h0.1 y h2
        · rw [h2]; exact hx
      · rw [List.mem_cons] at hy
        rcases hy with rfl | hy
        · exact .inl List.mem_cons_self
        · rcases ih2 y hy with h2 | h2
          · exact .inl (List.mem_cons_of_mem _ h2)
          · exact .inr h2
    · rw [if_neg hx]
      by_cases hk : x.k = c.k
      · rw [if_pos hk]
        split
        · refine ⟨List.pairwise_cons.2 ⟨fun y hy => by rw [← hk]; exact h0.1 y hy, h0.2⟩, fun y hy => ?_⟩
          rw [List.mem_cons] at hy
          rcases hy with rfl | hy
          · exact .inr rfl
          · exact .inl (List.mem_cons_of_mem _ hy)
        · exact ⟨h, fun y hy => .inl hy⟩
      · rw [if_neg hk]
        have hc : lessK c.k x.k = true := by
          rcases lessK_tri x.k c.k with h2 | h2 | h2
          · exact absurd h2 hx
          · exact absurd h2 hk
          · exact h2
        refine ⟨List.pairwise_cons.2 ⟨fun y hy => ?_, h⟩, fun y hy => ?_⟩
        · rw [List.mem_cons] at hy
          rcases hy with rfl | hy
          · exact hc
          · exact lessK_trans hc (h0.1 y hy)
        · rw [List.mem_cons] at hy
          rcases hy with rfl | hy
          · exact .inr rfl
          · exact .inl hy
/-- What stands among cells when one is put. -/
theorem mem_ins {c : RCl} : ∀ {l : List RCl}, Srt l → ∀ y, y ∈ ins c l ↔ (y ∈ l ∧ y.k ≠ c.k) ∨ (∃ x ∈ l, x.k = c.k ∧ y = if x.ts ≤ c.ts then c else x) ∨ (y = c ∧ ∀ x ∈ l, x.k ≠ c.k)
  | [], h, y => by simp [ins]
  | x :: t, h, y => by
    have h0 := List.pairwise_cons.1 h
    have ih := mem_ins (c := c) h0.2 y
    rw [ins]
    by_cases hx : lessK x.k c.k = true
    · have hne : x.k ≠ c.k := fun e => lessK_irr c.k (by rw [e] at hx; exact hx)
      rw [if_pos hx, List.mem_cons, ih]
      constructor
      · rintro (rfl | ⟨h1, h2⟩ | ⟨z, h1, h2, h3⟩ | ⟨h1, h2⟩)
        · exact .inl ⟨List.mem_cons_self, hne⟩
        · exact .inl ⟨List.mem_cons_of_mem _ h1, h2⟩
        · exact .inr (.inl ⟨z, List.mem_cons_of_mem _ h1, h2, h3⟩)
        · refine .inr (.inr ⟨h1, fun z hz => ?_⟩)
          rw [List.mem_cons] at hz
          rcases hz with rfl | hz
          · exact hne
          · exact h2 z hz
      · rintro (⟨h1, h2⟩ | ⟨z, h1, h2, h3⟩ | ⟨h1, h2⟩)
        · rw [List.mem_cons] at h1
          rcases h1 with h1 | h1
          · exact .inl h1
          · exact .inr (.inl ⟨h1, h2⟩)
        · rw [List.mem_cons] at h1
          rcases h1 with rfl | h1
          · exact absurd h2 hne
          · exact .inr (.inr (.inl ⟨z, h1, h2, h3⟩))
        · exact .inr (.inr (.inr ⟨h1, fun z hz => h2 z (List.mem_cons_of_mem _ hz)⟩))
    · rw [if_neg hx]
      by_cases hk : x.k = c.k
      · have hne : ∀ z ∈ t, z.k ≠ c.k := fun z hz e => lessK_irr c.k (by have := h0.1 z hz; rw [hk, e] at this; exact this)
        rw [if_pos hk]
        constructor
        · intro hy
          have hy2 : y = (if x.ts ≤ c.ts then c else x) ∨ y ∈ t := by
            split at hy <;> rw [List.mem_cons] at hy
            · rw [if_pos (by assumption)]; exact hy
            · rw [if_neg (by assumption)]; exact hy
          rcases hy2 with h1 | h1
          · exact .inr (.inl ⟨x, List.mem_cons_self, hk, h1⟩)
          · exact .inl ⟨List.mem_cons_of_mem _ h1, hne y h1⟩
        · intro hy
          have hy2 : y = (if x.ts ≤ c.ts then c else x) ∨ y ∈ t := by
            rcases hy with ⟨h1, h2⟩ | ⟨z, h1, h2, h3⟩ | ⟨h1, h2⟩
            · rw [List.mem_cons] at h1
              rcases h1 with rfl | h1
              · exact absurd hk h2
              · exact .inr h1
            · rw [List.mem_cons] at h1
              rcases h1 with rfl | h1
              · exact .inl h3
              · exact absurd h2 (hne z h1)
            · exact absurd hk (h2 x List.mem_cons_self)
          split
          · rw [if_pos (by assumption)] at hy2; rw [List.mem_cons]; exact hy2
          · rw [if_neg (by assumption)] at hy2; rw [List.mem_cons]; exact hy2
      · have hc : lessK c.k x.k = true := by
          rcases lessK_tri x.k c.k with h2 | h2 | h2
          · exact absurd h2 hx
          · exact absurd h2 hk
          · exact h2
        have hne : ∀ z ∈ x :: t, z.k ≠ c.k := fun z hz e => by
          rw [List.mem_cons] at hz
          rcases hz with rfl | hz
          · exact hk e
          · have := lessK_trans hc (h0.1 z hz)
            rw [e] at this
            exact lessK_irr _ this
        rw [if_neg hk, List.mem_cons]
        constructor
        · rintro (h1 | h1)
          · exact .inr (.inr ⟨h1, hne⟩)
          · exact .inl ⟨h1, hne y h1⟩
        · rintro (⟨h1, h2⟩ | ⟨z, h1, h2, h3⟩ | ⟨h1, h2⟩)
          · exact .inr h1
          · exact absurd h2 (hne z h1)
          · exact .inl h1
/-- Two lists of cells in order with the same cells are the same. -/
theorem srt_ext : ∀ {a b : List RCl}, Srt a → Srt b → (∀ y, y ∈ a ↔ y ∈ b) → a = b
  | [], [], _, _, _ => rfl
  | [], y :: b, _, _, h => absurd ((h y).2 List.mem_cons_self) (by simp)
  | x :: a, [], _, _, h => absurd ((h x).1 List.mem_cons_self) (by simp)
  | x :: a, y :: b, ha, hb, h => by
    have ha0 := List.pairwise_cons.1 ha
    have hb0 := List.pairwise_cons.1 hb
    have hxy : x = y := by
      have h1 := (h x).1 List.mem_cons_self
      have h2 := (h y).2 List.mem_cons_self
      rw [List.mem_cons] at h1 h2
      rcases h1 with h1 | h1
      · exact h1
      · rcases h2 with h2 | h2
        · exact h2.symm
        · exact absurd (ha0.1 y h2) (lessK_asymm (hb0.1 x h1))
    subst hxy
    rw [srt_ext ha0.2 hb0.2 fun z => ?_]
    have := h z
    rw [List.mem_cons, List.mem_cons] at this
    constructor
    · intro hz
      rcases this.1 (.inr hz) with h1 | h1
      · subst h1; exact absurd (ha0.1 z hz) (lessK_irr _)
      · exact h1
    · intro hz
      rcases this.2 (.inr hz) with h1 | h1
      · subst h1; exact absurd (hb0.1 z hz) (lessK_irr _)
      · exact h1
/-- What cells are behind commits: each has what the last one of those that wrote it wrote. -/
structure Told (Ds : List RCm) (l : List RCl) : Prop where
  srt : Srt l
  mem : ∀ y, y ∈ l ↔ (∃ d ∈ Ds, y.ts = d.ts ∧ (⟨y.k, y.v⟩ : RWr) ∈ d.W) ∧ ∀ d ∈ Ds, (∃ x ∈ d.W, x.k = y.k) → d.ts ≤ y.ts
  all : ∀ d ∈ Ds, ∀ x ∈ d.W, ∃ y ∈ l, y.k = x.k
theorem told_nil : Told [] [] := ⟨List.Pairwise.nil, by simp, by simp⟩
theorem told_empty {Ds : List RCm} {l : List RCl} (h : Told Ds l) (t : Int) : Told (Ds ++ [⟨t, []⟩]) l := by
  refine ⟨h.srt, fun y => ?_, fun d hd x hx => ?_⟩
  · rw [h.mem y]
    constructor
    · rintro ⟨⟨d, h1, h2⟩, h3⟩
      refine ⟨⟨d, List.mem_append_left _ h1, h2⟩, fun e he hx => ?_⟩
      rw [List.mem_append, List.mem_singleton] at he
      rcases he with he | rfl
      · exact h3 e he hx
      · obtain ⟨x, hx, _⟩ := hx
        simp at hx
    · rintro ⟨⟨d, h1, h2, h4⟩, h3⟩
      rw [List.mem_append, List.mem_singleton] at h1
      rcases h1 with h1 | rfl
      · exact ⟨⟨d, h1, h2, h4⟩, fun e he hx => h3 e (List.mem_append_left _ he) hx⟩
      · simp at h4
  · rw [List.mem_append, List.mem_singleton] at hd
    rcases hd with hd | rfl
    · exact h.all d hd x hx
    · simp at hx
theorem told_put {Ds : List RCm} {t : Int} {P : List RWr} {l : List RCl} (h : Told (Ds ++ [⟨t, P⟩]) l) (w : RWr) (hw : ∀ x ∈ P, x.k ≠ w.k) (ht : ∀ d ∈ Ds, d.ts ≠ t) : Told (Ds ++ [⟨t, P ++ [w]⟩]) (ins ⟨w.k, t, w.v⟩ l) := by
  have hm := mem_ins (c := ⟨w.k, t, w.v⟩) h.srt
  dsimp only at hm
  have hl : ∀ d : RCm, d ∈ Ds ++ [⟨t, P⟩] ↔ d ∈ Ds ∨ d = ⟨t, P⟩ := fun d => by rw [List.mem_append, List.mem_singleton]
  have hl2 : ∀ d : RCm, d ∈ Ds ++ [⟨t, P ++ [w]⟩] ↔ d ∈ Ds ∨ d = ⟨t, P ++ [w]⟩ := fun d => by rw [List.mem_append, List.mem_singleton]
  have hp : ∀ x, x ∈ P ++ [w] ↔ x ∈ P ∨ x = w := fun x => by rw [List.mem_append, List.mem_singleton]
  refine ⟨(srt_ins h.srt).1, fun y => ?_, fun d hd x hx => ?_⟩
  · rw [hm y]
    constructor
    · rintro (⟨h1, h2⟩ | ⟨x, h1, h2, h3⟩ | ⟨h1, h2⟩)
      · obtain ⟨⟨d, hd, h4, h5⟩, h3⟩ := (h.mem y).1 h1
        refine ⟨?_, fun e he hx => ?_⟩
        · rcases (hl d).1 hd with hd | rfl
          · exact ⟨d, (hl2 d).2 (.inl hd), h4, h5⟩
          · exact ⟨_, (hl2 _).2 (.inr rfl), h4, (hp _).2 (.inl h5)⟩
        · rcases (hl2 e).1 he with he | rfl
          · exact h3 e ((hl e).2 (.inl he)) hx
          · obtain ⟨x, hx, hx2⟩ := hx
            rcases (hp x).1 hx with hx | rfl
            · exact h3 ⟨t, P⟩ ((hl _).2 (.inr rfl)) ⟨x, hx, hx2⟩
            · exact absurd hx2.symm h2
      · obtain ⟨⟨d, hd, h4, h5⟩, h6⟩ := (h.mem x).1 h1
        by_cases hts : x.ts ≤ t
        · rw [if_pos hts] at h3
          subst h3
          refine ⟨⟨_, (hl2 _).2 (.inr rfl), rfl, (hp _).2 (.inr rfl)⟩, fun e he hx => ?_⟩
          rcases (hl2 e).1 he with he | rfl
          · have := h6 e ((hl e).2 (.inl he)) (by rw [h2]; exact hx)
            show e.ts ≤ t
            omega
          · exact Int.le_refl _
        · rw [if_neg hts] at h3
          subst h3
          refine ⟨?_, fun e he hx => ?_⟩
          · rcases (hl d).1 hd with hd | rfl
            · exact ⟨d, (hl2 d).2 (.inl hd), h4, h5⟩
            · exact ⟨_, (hl2 _).2 (.inr rfl), h4, (hp _).2 (.inl h5)⟩
          · rcases (hl2 e).1 he with he | rfl
            · exact h6 e ((hl e).2 (.inl he)) hx
            · show t ≤ y.ts
              omega
      · subst h1
        refine ⟨⟨_, (hl2 _).2 (.inr rfl), rfl, (hp _).2 (.inr rfl)⟩, fun e he hx => ?_⟩
        rcases (hl2 e).1 he with he | rfl
        · obtain ⟨x, hx, hx2⟩ := hx
          obtain ⟨z, hz, hz2⟩ := h.all e ((hl e).2 (.inl he)) x hx
          exact absurd (hz2.trans hx2) (h2 z hz)
        · exact Int.le_refl _
    · rintro ⟨⟨d, hd, h4, h5⟩, h6⟩
      by_cases hk : y.k = w.k
      · right
        rcases (hl2 d).1 hd with hd | rfl
        · left
          have hne := ht d hd
          have hge := h6 ⟨t, P ++ [w]⟩ ((hl2 _).2 (.inr rfl)) ⟨w, (hp _).2 (.inr rfl), hk.symm⟩
          dsimp only at hge
          refine ⟨y, (h.mem y).2 ⟨⟨d, (hl d).2 (.inl hd), h4, h5⟩, fun e he hx => ?_⟩, hk, by rw [if_neg (by omega)]⟩
          rcases (hl e).1 he with he | rfl
          · exact h6 e ((hl2 e).2 (.inl he)) hx
          · exact hge
        · dsimp only at h4 h5
          have hyc : y = ⟨w.k, t, w.v⟩ := by
            rcases (hp _).1 h5 with h5 | h5
            · exact absurd hk (hw _ h5)
            · obtain ⟨k, ts, v⟩ := y
              obtain ⟨k', v'⟩ := w
              cases h5
              dsimp only at h4
              rw [h4]
          by_cases hex : ∃ x ∈ l, x.k = w.k
          · obtain ⟨x, hx, hx2⟩ := hex
            left
            refine ⟨x, hx, hx2, ?_⟩
            obtain ⟨⟨d, hd, h7, h8⟩, h9⟩ := (h.mem x).1 hx
            have : d.ts ≤ y.ts := by
              rcases (hl d).1 hd with hd | rfl
              · exact h6 d ((hl2 d).2 (.inl hd)) ⟨_, h8, by rw [hk]; exact hx2⟩
              · exact absurd hx2 (hw _ h8)
            rw [if_pos (by omega)]
            exact hyc
          · right
            exact ⟨hyc, fun x hx e => hex ⟨x, hx, e⟩⟩
      · left
        refine ⟨(h.mem y).2 ⟨?_, fun e he hx => ?_⟩, hk⟩
        · rcases (hl2 d).1 hd with hd | rfl
          · exact ⟨d, (hl d).2 (.inl hd), h4, h5⟩
          · rcases (hp _).1 h5 with h5 | h5
            · exact ⟨_, (hl _).2 (.inr rfl), h4, h5⟩
            · exact absurd (congrArg RWr.k h5) hk
        · rcases (hl e).1 he with he | rfl
          · exact h6 e ((hl2 e).2 (.inl he)) hx
          · obtain ⟨x, hx, hx2⟩ := hx
            exact h6 ⟨t, P ++ [w]⟩ ((hl2 _).2 (.inr rfl)) ⟨x, (hp _).2 (.inl hx), hx2⟩
  · have hkey : ∀ z ∈ l, ∃ y ∈ ins ⟨w.k, t, w.v⟩ l, y.k = z.k := fun z hz => by
      by_cases hk : z.k = w.k
      · by_cases hts : z.ts ≤ t
        · exact ⟨⟨w.k, t, w.v⟩, (hm _).2 (.inr (.inl ⟨z, hz, hk, by rw [if_pos hts]⟩)), hk.symm⟩
        · exact ⟨z, (hm _).2 (.inr (.inl ⟨z, hz, hk, by rw [if_neg hts]⟩)), rfl⟩
      · exact ⟨z, (hm _).2 (.inl ⟨hz, hk⟩), rfl⟩
    have hown : ∃ y ∈ ins ⟨w.k, t, w.v⟩ l, y.k = w.k := by
      by_cases hex : ∃ x ∈ l, x.k = w.k
      · obtain ⟨x, hx, hx2⟩ := hex
        obtain ⟨y, hy, hy2⟩ := hkey x hx
        exact ⟨y, hy, hy2.trans hx2⟩
      · exact ⟨⟨w.k, t, w.v⟩, (hm _).2 (.inr (.inr ⟨rfl, fun x hx e => hex ⟨x, hx, e⟩⟩)), rfl⟩
    have hold : ∀ d ∈ Ds ++ [⟨t, P⟩], ∀ x ∈ d.W, ∃ y ∈ ins ⟨w.k, t, w.v⟩ l, y.k = x.k := fun d hd x hx => by
      obtain ⟨z, hz, hz2⟩ := h.all d hd x hx
      obtain ⟨y, hy, hy2⟩ := hkey z hz
      exact ⟨y, hy, hy2.trans hz2⟩
    rcases (hl2 d).1 hd with hd | rfl
    · exact hold d ((hl d).2 (.inl hd)) x hx
    · rcases (hp x).1 hx with hx | rfl
      · exact hold ⟨t, P⟩ ((hl _).2 (.inr rfl)) x hx
      · exact hown
theorem told_puts {Ds : List RCm} {t : Int} (ht : ∀ d ∈ Ds, d.ts ≠ t) : ∀ (W P : List RWr) (l : List RCl), Told (Ds ++ [⟨t, P⟩]) l → Rise ((P ++ W).map (·.k)) → Told (Ds ++ [⟨t, P ++ W⟩]) (applyL l t W)
  | [], P, l, h, _ => by rw [List.append_nil]; exact h
  | w :: W, P, l, h, hr => by
    have e : P ++ w :: W = (P ++ [w]) ++ W := by simp
    have hw : ∀ x ∈ P, x.k ≠ w.k := fun x hx e2 => by
      rw [List.map_append, Rise, List.pairwise_append] at hr
      have := hr.2.2 x.k (List.mem_map_of_mem hx) w.k (List.mem_map_of_mem List.mem_cons_self)
      rw [e2] at this
      exact lessK_irr _ this
    have h2 := told_puts ht W (P ++ [w]) _ (told_put h w hw ht) (by rw [← e]; exact hr)
    rw [e]
    show Told _ (applyL (putK l ⟨w.k, t, w.v⟩) t W)
    rw [putK_ins]
    exact h2
theorem told_apply {Ds : List RCm} {l : List RCl} (h : Told Ds l) (d : RCm) (hr : Rise (d.W.map (·.k))) (ht : ∀ e ∈ Ds, e.ts ≠ d.ts) : Told (Ds ++ [d]) (applyL l d.ts d.W) := by
  have := told_puts ht d.W [] l (told_empty h d.ts) (by simpa using hr)
  rw [List.nil_append] at this
  exact this
/-- The order doesn't matter. -/
theorem told_same {Ds Es : List RCm} {a b : List RCl} (ha : Told Ds a) (hb : Told Es b) (h : ∀ d, d ∈ Ds ↔ d ∈ Es) : a = b := by
  refine srt_ext ha.srt hb.srt fun y => ?_
  rw [ha.mem y, hb.mem y]
  constructor
  · rintro ⟨⟨d, h1, h2⟩, h3⟩
    exact ⟨⟨d, (h d).1 h1, h2⟩, fun e he => h3 e ((h e).2 he)⟩
  · rintro ⟨⟨d, h1, h2⟩, h3⟩
    exact ⟨⟨d, (h d).2 h1, h2⟩, fun e he => h3 e ((h e).1 he)⟩
/-! As if all had always been. -/
theorem rise_graph {l : List RCl} (h : Srt l) : Rise ((graphL l).map (·.k)) := by
  unfold graphL Rise
  rw [List.map_map, List.pairwise_map]
  exact (h.filter _)
theorem told_fresh {l : List RCl} (h : Srt l) : Told [⟨0, graphL l⟩] (freshL l) := by
  have hr := rise_graph h
  refine ⟨?_, fun y => ?_, fun d hd x hx => ?_⟩
  · unfold freshL Srt
    unfold Rise at hr
    rw [List.pairwise_map] at hr ⊢
    exact hr
  · unfold freshL
    rw [List.mem_map]
    constructor
    · rintro ⟨w, h1, rfl⟩
      refine ⟨⟨_, List.mem_singleton_self _, rfl, h1⟩, fun d hd _ => ?_⟩
      rw [List.mem_singleton] at hd; subst hd; exact Int.le_refl _
    · rintro ⟨⟨d, h1, h2, h3⟩, _⟩
      rw [List.mem_singleton] at h1; subst h1
      exact ⟨_, h3, by obtain ⟨k, ts, v⟩ := y; dsimp only at h2; rw [h2]⟩
  · rw [List.mem_singleton] at hd; subst hd
    exact ⟨⟨x.k, 0, x.v⟩, by unfold freshL; rw [List.mem_map]; exact ⟨x, hx, rfl⟩, rfl⟩
theorem graph_fresh (l : List RCl) : graphL (freshL l) = graphL l := by
  have e : ∀ x ∈ graphL l, (x.v == ([] : List UInt8)) = false := fun x hx => by
    unfold graphL at hx
    rw [List.mem_map] at hx
    obtain ⟨y, hy, rfl⟩ := hx
    have := (List.mem_filter.1 hy).2
    simpa using this
  unfold freshL
  generalize graphL l = g at e
  unfold graphL
  induction g with
  | nil => rfl
  | cons x g ih =>
    have h1 := e x List.mem_cons_self
    rw [List.map_cons, List.filter_cons]
    rw [if_pos (by simpa using h1), List.map_cons, ih fun y hy => e y (List.mem_cons_of_mem _ hy)]
/-! Tidy commits. -/
def lastLess (acc : List RWr) (k : RKey) : Bool := match acc.getLast? with | some x => lessK x.k k | none => true
def tidy1 (acc : List RWr) (w : RWr) : List RWr := if rightB w.k && lastLess acc w.k then acc ++ [w] else acc
def tidyW (l : List RWr) : List RWr := l.foldl tidy1 []
def tidyC (c : RCm) : RCm := ⟨max c.ts 1, tidyW c.W⟩
theorem tidyW_snoc (l : List RWr) (i : Nat) (h : i < l.length) : tidyW (l.take (i + 1)) = tidy1 (tidyW (l.take i)) l[i] := by
  unfold tidyW
  rw [List.take_succ_eq_append_getElem h, List.foldl_append]; rfl
theorem rise_snoc {a : List RWr} {w : RWr} (h : Rise (a.map (·.k))) (hl : lastLess a w.k = true) : Rise ((a ++ [w]).map (·.k)) := by
  unfold Rise at *
  rw [List.map_append, List.pairwise_append]
  refine ⟨h, by simp, fun x hx y hy => ?_⟩
  simp only [List.map_cons, List.map_nil, List.mem_singleton] at hy
  subst hy
  rw [List.mem_map] at hx
  obtain ⟨z, hz, rfl⟩ := hx
  cases e : a.getLast? with
  | none => rw [List.getLast?_eq_none_iff] at e; subst e; simp at hz
  | some q =>
    rw [lastLess, e] at hl
    dsimp only at hl
    obtain ⟨a', e2⟩ := List.getLast?_eq_some_iff.1 e
    subst e2
    rw [List.mem_append, List.mem_singleton] at hz
    rcases hz with hz | rfl
    · rw [List.map_append, List.pairwise_append] at h
      exact lessK_trans (h.2.2 z.k (List.mem_map_of_mem hz) q.k (by simp)) hl
    · exact hl
theorem tidy_inv : ∀ (l acc : List RWr), (∀ x ∈ acc, x.k.Right) → Rise (acc.map (·.k)) → (∀ x ∈ l.foldl tidy1 acc, x.k.Right) ∧ Rise ((l.foldl tidy1 acc).map (·.k)) ∧ (l.foldl tidy1 acc).length ≤ acc.length + l.length ∧ ∀ x ∈ l.foldl tidy1 acc, x ∈ acc ∨ x ∈ l
  | [], acc, h1, h2 => ⟨h1, h2, by simp, fun x hx => .inl hx⟩
  | w :: l, acc, h1, h2 => by
    rw [List.foldl_cons]
    by_cases hq : (rightB w.k && lastLess acc w.k) = true
    · have e : tidy1 acc w = acc ++ [w] := by unfold tidy1; rw [if_pos hq]
      rw [Bool.and_eq_true] at hq
      have ih := tidy_inv l (acc ++ [w]) (fun x hx => by
        rw [List.mem_append, List.mem_singleton] at hx
        rcases hx with hx | rfl
        · exact h1 x hx
        · exact (rightB_iff _).1 hq.1) (rise_snoc h2 hq.2)
      rw [e]
      refine ⟨ih.1, ih.2.1, by have := ih.2.2.1; simp at this ⊢; omega, fun x hx => ?_⟩
      rcases ih.2.2.2 x hx with h | h
      · rw [List.mem_append, List.mem_singleton] at h
        rcases h with h | rfl
        · exact .inl h
        · exact .inr List.mem_cons_self
      · exact .inr (List.mem_cons_of_mem _ h)
    · have e : tidy1 acc w = acc := by unfold tidy1; rw [if_neg hq]
      have ih := tidy_inv l acc h1 h2
      rw [e]
      refine ⟨ih.1, ih.2.1, by have := ih.2.2.1; simp at this ⊢; omega, fun x hx => ?_⟩
      rcases ih.2.2.2 x hx with h | h
      · exact .inl h
      · exact .inr (List.mem_cons_of_mem _ h)
theorem tidyW_len (l : List RWr) : (tidyW l).length ≤ l.length := by
  have := (tidy_inv l [] (by simp) List.Pairwise.nil).2.2.1
  simp at this
  exact this
theorem tidyW_mem {l : List RWr} {x : RWr} (h : x ∈ tidyW l) : x ∈ l := by
  rcases (tidy_inv l [] (by simp) List.Pairwise.nil).2.2.2 x h with h | h
  · simp at h
  · exact h
theorem tidyW_rise (l : List RWr) : Rise ((tidyW l).map (·.k)) := (tidy_inv l [] (by simp) List.Pairwise.nil).2.1
theorem tidyC_tidy (c : RCm) (h : inI c.ts) (hl : c.W.length < 4294967296) : (tidyC c).Tidy := by
  refine ⟨?_, ?_, (tidy_inv c.W [] (by simp) List.Pairwise.nil).1, (rise_iff _).2 (tidyW_rise c.W), ?_⟩
  · show 1 ≤ max c.ts 1
    omega
  · show inI (max c.ts 1)
    unfold inI at *; omega
  · have := tidyW_len c.W
    show (tidyW c.W).length < _
    omega
theorem tidyC_ok {c : RCm} (h : c.Ok) : (tidyC c).Ok := by
  refine ⟨?_, fun x hx => h.ws x (tidyW_mem hx)⟩
  have := h.ts
  show inI (max c.ts 1)
  unfold inI at *; omega
/-- What one tidy commit leaves of no cells. -/
theorem one_tidy {s : RSt} {x : RCm} (hx : x.Tidy) (hs : s.L = []) (hl : s.last = 0) (he : s.epoch < 4294967296) (hw : s.low < 4294967296) : (applyR s x).Tidy := by
  have ht := told_apply told_nil x ((rise_iff _).1 hx.rise) (by simp)
  have e : (applyR s x).L = applyL [] x.ts x.W := by rw [applyR, hs]
  have hts := hx.ts
  have hti := hx.ti
  have hla : (applyR s x).last = max 0 x.ts := by rw [applyR, hl]
  refine ⟨?_, ?_, he, hw, fun y hy => ?_, ?_, ?_⟩
  · rw [hla]; omega
  · rw [hla]; unfold inI at *; omega
  · rw [e] at hy
    obtain ⟨⟨d, hd, h1, h2⟩, _⟩ := (ht.mem y).1 hy
    rw [List.nil_append, List.mem_singleton] at hd
    subst hd
    rw [hla]
    refine ⟨hx.right _ h2, by rw [h1]; exact hti, by omega, by omega⟩
  · rw [e]
    exact (srt_iff _).2 ht.srt
  · rw [e]
    have := applyL_len [] x.ts x.W x.W.length (Nat.le_refl _)
    rw [List.take_length] at this
    have := hx.len
    simp at *
    omega
theorem tidy_cells_ok {x : RCm} (hx : x.Tidy) (ho : x.Ok) : ∀ y ∈ applyL [] x.ts x.W, y.Ok := fun y hy => by
  have ht := told_apply told_nil x ((rise_iff _).1 hx.rise) (by simp)
  obtain ⟨⟨d, hd, h1, h2⟩, _⟩ := (ht.mem y).1 hy
  rw [List.nil_append, List.mem_singleton] at hd
  subst hd
  have := ho.ws _ h2
  exact ⟨this.1, by rw [h1]; exact hx.ti, this.2⟩
end Go.Proofs.YthjnefpnnifjiaaDoor
