/- A bytes.Buffer that the call has made, as an assertion; WriteString and Bytes. -/
import Derived.Test.YthjnefpnnifjiaaDoorPackN
import Derived.Test.YthjnefpnnifjiaaDoorPk
import Derived.Test.YthjnefpnnifjiaaDoorStr
set_option linter.unusedVariables false
set_option linter.unusedSimpArgs false
namespace Go.Proofs.YthjnefpnnifjiaaDoor
open Go.RowKit
/-- A buffer in a part of the heap, all of it above B. -/
def isBufF (B b : Nat) (l : List UInt8) (F : PH) : Prop := B ≤ b ∧ ∃ v lr, F b = some (.cells #[v, .int .i64 0, .int .i8 lr] 95 (0, 0)) ∧
  ((v = .slice none 0 0 ∧ l = [] ∧ ∀ k, k ≠ b → F k = none) ∨
   ∃ g cap cur, v = .slice (some ⟨g, 0, none⟩) l.length cap ∧ g ≠ b ∧ B ≤ g ∧ F g = some (.cells cur 5 (0, 0)) ∧ l.length ≤ cap ∧ cap ≤ maxLen ∧ cur.size = cap ∧ cur.toList.take l.length = u8s l ∧ ∀ k, k ≠ b → k ≠ g → F k = none)
def bufH (W : World) (b : Nat) (l : List UInt8) : HP := isBufF W.heap.size b l
/-- Assertions on old blocks, and on rows that are none of bytes. -/
inductive Q8 (W : World) : List HP → Prop where
  | nil : Q8 W []
  | old {M : List HP} : Q8 W M → Q8 W (old W :: M)
  | row {b : Nat} {c : List Value} {t : TypeId} {M : List HP} : t ≠ 5 → Q8 W M → Q8 W (row b c t :: M)
theorem Q8.part {W : World} : ∀ {M : List HP} (_ : Q8 W M) {F : PH} (_ : st M F) (k : Nat) (o : Obj), F k = some o → k < W.heap.size ∨ ∃ c t fz, o = .cells c t fz ∧ t ≠ 5
  | _, .nil, F, hF, k, o, e => by cases hF; cases e
  | _, .old h, F, hF, k, o, e => by
    obtain ⟨F1, F2, hd, rfl, h1, h2⟩ := hF
    simp only [PH.or] at e
    cases e1 : F1 k with
    | some p =>
      cases h1
      exact .inl (Array.getElem?_eq_some_iff.1 e1).1
    | none => rw [e1] at e; exact h.part h2 k o e
  | _, .row ht h, F, hF, k, o, e => by
    obtain ⟨F1, F2, hd, rfl, h1, h2⟩ := hF
    simp only [PH.or] at e
    cases e1 : F1 k with
    | some p =>
      obtain ⟨fr, _, rfl⟩ := h1
      rw [e1] at e
      cases e
      simp only [one] at e1
      split at e1
      · cases e1; exact .inr ⟨_, _, _, rfl, ht⟩
      · cases e1
    | none => rw [e1] at e; exact h.part h2 k o e
theorem isBuf_world {B b : Nat} {l : List UInt8} {F : PH} {w : World} (h : isBufF B b l F) (hw : ∀ k o, F k = some o → w.heap[k]? = some o) : Lib.IsBuffer 95 5 B b (u8s l) w := by
  obtain ⟨hb, v, lr, h1, ⟨rfl, rfl, _⟩ | ⟨g, cap, cur, rfl, hgb, hg, h2, h3, h4, h5, h6, _⟩⟩ := h
  · exact ⟨hb, _, lr, hw _ _ h1, ⟨by simp [u8s], .inl ⟨rfl, rfl⟩⟩, by simp [Value.ownBlock]⟩
  · refine ⟨hb, _, lr, hw _ _ h1, ⟨by simp, .inr ⟨g, cap, cur, by simp, hg, hw _ _ h2, by simpa using h3, h4, by simpa using h5, by simpa using h6⟩⟩, ?_⟩
    simp only [Value.ownBlock]
    intro e; cases e; exact hgb rfl
theorem isBuf_part {B b : Nat} {l : List UInt8} {w : World} (h : Lib.IsBuffer 95 5 B b (u8s l) w) : ∃ F, isBufF B b l F ∧ (∀ k o, F k = some o → w.heap[k]? = some o) ∧ ∀ k, F k ≠ none → k = b ∨ ∃ c, w.heap[k]? = some (.cells c 5 (0, 0)) ∧ B ≤ k := by
  obtain ⟨hb, v, lr, h1, ⟨hl, h2⟩, hne⟩ := h
  rcases h2 with ⟨rfl, h3⟩ | ⟨g, cap, cur, rfl, hg, h2, h3, h4, h5, h6⟩
  · refine ⟨one b (.cells #[.slice none 0 0, .int .i64 0, .int .i8 lr] 95 (0, 0)), ⟨hb, _, lr, by simp [one], .inl ⟨rfl, List.eq_nil_of_length_eq_zero (by simpa using h3), fun k hk => by simp [one, hk]⟩⟩, fun k o e => ?_, fun k hk => ?_⟩
    · simp only [one] at e
      split at e
      · rename_i e2; subst e2; cases e; exact h1
      · cases e
    · by_cases e : k = b
      · exact .inl e
      · exact absurd (by simp [one, e]) hk
  · have hgb : g ≠ b := fun e => hne (by simp [Value.ownBlock, e])
    simp only [u8s_length, Nat.mul_one] at h1 h3 h5 h6
    refine ⟨(one b (.cells #[.slice (some ⟨g, 0, none⟩) l.length cap, .int .i64 0, .int .i8 lr] 95 (0, 0))).or (one g (.cells cur 5 (0, 0))), ⟨hb, .slice (some ⟨g, 0, none⟩) l.length cap, lr, by simp [PH.or, one], .inr ⟨g, cap, cur, rfl, hgb, hg, by simp [PH.or, one, hgb], h3, h4, h5, h6, fun k h1 h2 => by simp [PH.or, one, h1, h2]⟩⟩, fun k o e => ?_, fun k hk => ?_⟩
    · simp only [PH.or, one] at e
      by_cases e1 : k = b
      · subst e1; simp at e; subst e; exact h1
      · by_cases e2 : k = g
        · subst e2; simp [e1] at e; subst e; exact h2
        · simp [e1, e2] at e
    · by_cases e1 : k = b
      · exact .inl e1
      · by_cases e2 : k = g
        · subst e2; exact .inr ⟨cur, h2, hg⟩
        · exact absurd (by simp [PH.or, one, e1, e2]) hk
theorem buf_lt {B b : Nat} {l : List UInt8} {w : World} (h : Lib.IsBuffer 95 5 B b (u8s l) w) : B ≤ w.heap.size := Nat.le_of_lt (Nat.lt_of_le_of_lt h.1 h.lt)
theorem bws_spec (W w : World) (M : List HP) (b : Nat) (l : List UInt8) (hs : Sat W w (bufH W b l :: M)) (hM : Q8 W M) (s : List UInt8) (hl : l.length + s.length ≤ 140737488355328) :
    Calls Tryd.prog 45 #[.pointer (some ⟨b, 0, none⟩), (.string ⟨(s).toArray⟩)] w fun e w' => e = .returned (.tuple #[.int .i64 (s.length : Nat), .nilIface]) ∧ Sat W w' (bufH W b (l ++ s) :: M) := by
  obtain ⟨h1, h2, h3, F, ⟨F1, F2, hd, rfl, hb, hr⟩, hw⟩ := hs
  have hsz : (⟨s.toArray⟩ : ByteArray).size = s.length := by simp [ByteArray.size]
  have hwb : ∀ k o, F1 k = some o → w.heap[k]? = some o := fun k o e => hw k o (by simp [PH.or, e])
  have hw2 : ∀ k o, F2 k = some o → w.heap[k]? = some o := fun k o e => hw k o (PH.le_or_right hd k o e)
  have hB := isBuf_world hb hwb
  have hFb : F1 b ≠ none := by obtain ⟨_, v, lr, e, _⟩ := hb; rw [e]; simp
  have hF2b : F2 b = none := (hd b).resolve_left hFb
  refine (Tryd.Buffer_WriteString_k W.heap.size b (u8s l) ⟨s.toArray⟩ w hB (buf_lt hB) (u8s_one l) (by rw [hsz]; simpa using hl)).mono ?_
  rintro e w' ⟨rfl, hB', bel, kept⟩
  have e1 : u8s l ++ Lib.byteCells (⟨s.toArray⟩ : ByteArray).data.toList = u8s (l ++ s) := by simp [u8s, Lib.byteCells]
  rw [e1] at hB'
  obtain ⟨F1', hb', hw', hk'⟩ := isBuf_part hB'
  have hkeep : ∀ k o, F2 k = some o → w'.heap[k]? = some o := fun k o e => by
    rcases hM.part hr k o e with hlt | ⟨c, t, fz, rfl, ht⟩
    · rw [bel.block k hlt]; exact hw2 k o e
    · refine kept k _ (hw2 k _ e) (fun h => ?_) (fun c' fz' h => ?_)
      · cases h; rw [hF2b] at e; cases e
      · cases h; exact ht rfl
  refine ⟨by rw [hsz], bel.os.trans h1, bel.tape.trans h2, bel.output.trans h3, F1'.or F2, ⟨F1', F2, fun k => ?_, rfl, hb', hr⟩, fun k o e => ?_⟩
  · by_cases hk : F1' k = none
    · exact .inl hk
    · right
      cases e : F2 k with
      | none => rfl
      | some o =>
        exfalso
        rcases hk' k hk with rfl | ⟨c, hc, hge⟩
        · rw [hF2b] at e; cases e
        · rcases hM.part hr k o e with hlt | ⟨c', t, fz, rfl, ht⟩
          · omega
          · have := hkeep k _ e
            rw [hc] at this
            cases this; exact ht rfl
  · simp only [PH.or] at e
    cases e1 : F1' k with
    | some p => rw [e1] at e; cases e; exact hw' k _ e1
    | none => rw [e1] at e; exact hkeep k o e
/-- Its bytes; the buffer itself is given away. -/
theorem bbytes_spec (W w : World) (M : List HP) (b : Nat) (l : List UInt8) (hs : Sat W w (bufH W b l :: M)) (hM : Q8 W M) :
    Calls Tryd.prog 50 #[.pointer (some ⟨b, 0, none⟩)] w fun e w' => ∃ v, e = .returned v ∧ Sat W w' (own v 5 l.length 1 (u8s l) :: M) := by
  obtain ⟨h1, h2, h3, F, ⟨F1, F2, hd, rfl, hb, hr⟩, hw⟩ := hs
  have hwb : ∀ k o, F1 k = some o → w.heap[k]? = some o := fun k o e => hw k o (by simp [PH.or, e])
  have hw2 : ∀ k o, F2 k = some o → w.heap[k]? = some o := fun k o e => hw k o (PH.le_or_right hd k o e)
  have hB := isBuf_world hb hwb
  refine (Tryd.Buffer_Bytes W.heap.size b (u8s l) w hB).mono ?_
  rintro e w' ⟨v, rfl, ⟨hl, ho⟩, n, rfl⟩
  refine ⟨v, rfl, ?_⟩
  refine Sat.drewN ?_ n
  rcases ho with ⟨rfl, h0⟩ | ⟨g, cap, cur, rfl, hg, h4, h5, h6, h7, h8⟩
  · simp only [u8s_length] at h0
    exact ⟨h1, h2, h3, PH.emp.or F2, ⟨PH.emp, F2, PH.dj_comm (PH.dj_emp F2), rfl, ⟨by simp, .inl ⟨h0, ⟨none, rfl⟩, rfl⟩⟩, hr⟩, fun k o e => hw2 k o e⟩
  · have h4' : w.heap[g]? = some (.cells cur 5 (0, 0)) := h4
    simp only [u8s_length, Nat.mul_one] at h5 h7 h8
    have hF2g : F2 g = none := by
      cases e : F2 g with
      | none => rfl
      | some o =>
        exfalso
        rcases hM.part hr g o e with hlt | ⟨c', t, fz, rfl, ht⟩
        · omega
        · have := hw2 g _ e
          rw [h4'] at this
          cases this; exact ht rfl
    refine ⟨h1, h2, h3, (one g (.cells cur 5 (0, 0))).or F2, ⟨_, F2, fun k => ?_, rfl, ⟨by simp, .inr ⟨g, cap, cur.toList.drop l.length, by simp, h5, h6, by simp [h7], (0, 0), .inl rfl, ?_⟩⟩, hr⟩, fun k o e => ?_⟩
    · by_cases hk : k = g
      · subst hk; exact .inr hF2g
      · left; simp [one, hk]
    · rw [← h8, List.take_append_drop]
    · simp only [PH.or, one] at e
      by_cases hk : k = g
      · subst hk; simp at e; subst e; exact h4'
      · simp [hk] at e; exact hw2 k o e
/-- A buffer that has just been made. -/
theorem buf_new {W w : World} {M : List HP} (h : Sat W w M) (hold : old W ∈ M) : Sat W (w.alloc (.cells #[.slice none 0 0, .int .i64 0, .int .i8 0] 95)) (bufH W w.heap.size [] :: M) := by
  have := h.alloc (.cells #[.slice none 0 0, .int .i64 0, .int .i8 0] 95)
  have hsz := (h.end_ hold).size
  obtain ⟨h1, h2, h3, F, ⟨F1, F2, hd, rfl, rfl, hr⟩, hw⟩ := this
  exact ⟨h1, h2, h3, _, ⟨_, F2, hd, rfl, ⟨hsz, _, 0, by simp [one], .inl ⟨rfl, rfl, fun k hk => by simp [one, hk]⟩⟩, hr⟩, hw⟩
end Go.Proofs.YthjnefpnnifjiaaDoor
