/- The tokens of a text that is taken lie in it where they say, with nothing but blanks and remarks between: in plain Lean. -/
import Derived.Test.YtghlfpeifdikkaaDoorLexA
namespace Go.Proofs.YtghlfpeifdikkaaDoor.Lex
open Go Go.Proofs.YtghlfpeifdikkaaDoor

/-- nothing but blanks stands from a place on up to another -/
def Bare (s : ByteArray) (a p : Nat) : Prop := ∀ j, a ≤ j → j < p → blk (at_ s j) = true
/-- a remark's sign stands between two places -/
def Sharp (s : ByteArray) (a p : Nat) : Prop := ∃ j, a ≤ j ∧ j < p ∧ at_ s j = 35
/-- no line's end, and nothing but blanks and a remark -/
def Gap (s : ByteArray) (a p : Nat) : Prop := ∀ j, a ≤ j → j < p → at_ s j ≠ 10 ∧ (blk (at_ s j) = true ∨ Sharp s a (j + 1))
/-- the tokens from a place a on, of the line no that begins at b, and of what follows -/
inductive Tells (s : ByteArray) : Nat → Nat → Nat → List Tk → Prop where
  | done (a no b : Nat) : a = s.size → Tells s a no b []
  | tok (a no b : Nat) (k : Tk) (l : List Tk) (p : Nat) : a ≤ p → b + k.col = p + 1 → k.line = no → Bare s a p → p + k.text.size ≤ s.size → s.extract p (p + k.text.size) = k.text → k.kind ≠ 4 → Tells s (p + k.text.size) no b l → Tells s a no b (k :: l)
  | fin (a no b : Nat) (k : Tk) (l : List Tk) (p : Nat) : a ≤ p → b + k.col = p + 1 → k.line = no → Gap s a p → p + k.text.size ≤ s.size → s.extract p (p + k.text.size) = k.text → k.kind = 4 → Tells s (p + k.text.size) (no + 1) (p + k.text.size) l → Tells s a no b (k :: l)

theorem Bare.gap {s : ByteArray} {a p : Nat} (h : Bare s a p) : Gap s a p := fun j h1 h2 => by
  have hb := h j h1 h2
  refine ⟨fun h10 => ?_, .inl hb⟩
  rw [h10] at hb; cases hb
theorem Bare.snoc {s : ByteArray} {a p : Nat} (h : Bare s a p) (hb : blk (at_ s p) = true) : Bare s a (p + 1) := fun j h1 h2 => by
  by_cases e : j = p
  · rw [e]; exact hb
  · exact h j h1 (by omega)
theorem line_tells (s : ByteArray) (b e no : Nat) (he : e ≤ s.size) (h10 : ∀ j, b ≤ j → j < e → at_ s j ≠ 10) (E : List Tk) (hE : ∀ a, a ≤ e → Gap s a e → Tells s a no b E) :
    ∀ i a, b ≤ a → a ≤ i → i ≤ e → Bare s a i → (lineFrom s b e no i).2.code = 0 → Tells s a no b ((lineFrom s b e no i).1 ++ E) := by
  intro i
  induction hm : e - i using Nat.strongRecOn generalizing i with
  | _ m ih =>
    intro a hba hai hie hbare hc
    unfold lineFrom at hc ⊢
    by_cases hlt : i < e
    · rw [dif_pos hlt] at hc ⊢
      by_cases h35 : at_ s i = 35
      · rw [if_pos h35]
        refine hE a (by omega) (fun j h1 h2 => ⟨h10 j (by omega) h2, ?_⟩)
        by_cases hj : j < i
        · exact .inl (hbare j h1 hj)
        · exact .inr ⟨i, by omega, by omega, h35⟩
      · rw [if_neg h35] at hc ⊢
        by_cases hbl : blk (at_ s i) = true
        · rw [if_pos hbl] at hc ⊢
          exact ih (e - (i + 1)) (by omega) (i + 1) rfl a hba (by omega) (by omega) (hbare.snoc hbl) hc
        · rw [if_neg hbl] at hc ⊢
          simp only at hc ⊢
          by_cases hk : kd (at_ s i) = 0
          · rw [if_pos hk] at hc; simp at hc
          · rw [if_neg hk] at hc ⊢
            obtain ⟨j, hj⟩ : ∃ j, (if kd (at_ s i) = 3 then i + 1 else skip (fun j => kd (at_ s j) == kd (at_ s i)) e (i + 1)) = j := ⟨_, rfl⟩
            have hj3 : i + 1 ≤ j ∧ j ≤ e := by
              rw [← hj]
              split
              · omega
              · exact ⟨skip_le _ _ _, skip_ge _ _ _ (by omega)⟩
            rw [hj] at hc ⊢
            by_cases hbad : bad s (kd (at_ s i)) i j ≠ 0
            · rw [if_pos hbad] at hc; exact absurd hc hbad
            · rw [if_neg hbad] at hc ⊢
              rw [show max j (i + 1) = j from by omega] at hc ⊢
              have hz : (s.extract i j).size = j - i := by rw [ByteArray.size_extract]; omega
              have hr := ih (e - j) (by omega) j rfl j (by omega) (Nat.le_refl _) hj3.2 (fun x h1 h2 => by omega) hc
              refine .tok a no b _ _ i hai (by simp only; omega) rfl hbare (by simp only [hz]; omega) (by simp only [hz]; rw [show i + (j - i) = j from by omega]) ?_ ?_
              · simp only
                have : kd (at_ s i) < 4 := by unfold kd; (repeat' split) <;> omega
                omega
              · simp only [hz]
                rw [show i + (j - i) = j from by omega]
                exact hr
    · have hi : i = e := by omega
      rw [dif_neg hlt]
      rw [hi] at hbare hai
      exact hE a hai hbare.gap
theorem ext_min (s : ByteArray) (e : Nat) : s.extract e (e + (min (e + 1) s.size - e)) = s.extract e (e + 1) := by
  by_cases h : e < s.size
  · rw [show e + (min (e + 1) s.size - e) = e + 1 from by omega]
  · rw [ByteArray.extract_eq_empty_iff.2 (by omega), ByteArray.extract_eq_empty_iff.2 (by omega)]
theorem lines_tells (s : ByteArray) : ∀ no i, i ≤ s.size → (linesFrom s no i).2.code = 0 → Tells s i no i (linesFrom s no i).1 := by
  intro no i
  induction hm : s.size - i using Nat.strongRecOn generalizing no i with
  | _ m ih =>
    intro hi hc
    by_cases hlt : i < s.size
    · have h1 := eol_le s i
      have h2 := eol_ge s i hi
      rw [lines_step s no i hlt] at hc ⊢
      have hcut := lineR_cut s i (eol s i) no h2 h1
      by_cases hl : (lineR (s.extract i (eol s i)) no).2.code ≠ 0
      · rw [if_pos hl] at hc; exact absurd hc hl
      · rw [if_neg hl] at hc ⊢
        simp only at hc ⊢
        have hl0 : (lineR (s.extract i (eol s i)) no).2.code = 0 := by omega
        rw [hcut] at hl0 ⊢
        by_cases h200 : 200 < eol s i - i
        · rw [if_pos h200] at hl0; simp at hl0
        · rw [if_neg h200] at hl0 ⊢
          have hz : (s.extract (eol s i) (eol s i + 1)).size = min (eol s i + 1) s.size - eol s i := by rw [ByteArray.size_extract]
          refine line_tells s i (eol s i) no h2 (fun j a b => eol_in s i j a b) _ (fun a ha hg => ?_) i i (Nat.le_refl _) (Nat.le_refl _) h1 (fun j a b => by omega) hl0
          refine .fin a no i _ _ (eol s i) ha (by simp only; omega) rfl hg (by simp only [hz]; omega) (by simp only [hz]; exact ext_min s (eol s i)) rfl ?_
          simp only [hz]
          by_cases hend : eol s i < s.size
          · rw [show eol s i + (min (eol s i + 1) s.size - eol s i) = eol s i + 1 from by omega]
            exact ih (s.size - (eol s i + 1)) (by omega) (no + 1) (eol s i + 1) rfl (by omega) hc
          · rw [show eol s i + (min (eol s i + 1) s.size - eol s i) = s.size from by omega]
            rw [show linesFrom s (no + 1) (eol s i + 1) = ([], ok) from by unfold linesFrom; rw [dif_neg (by omega)]]
            exact .done _ _ _ rfl
    · have he : linesFrom s no i = ([], ok) := by unfold linesFrom; rw [dif_neg hlt]
      rw [he]
      exact .done _ _ _ (by omega)
theorem all_tells (s : ByteArray) (h : (all s).2.code = 0) : Tells s 0 1 0 (all s).1 := by
  unfold all at h ⊢
  split at h
  · simp at h
  · rw [if_neg (by assumption)]
    exact lines_tells s 1 0 (Nat.zero_le _) h
end Go.Proofs.YtghlfpeifdikkaaDoor.Lex
