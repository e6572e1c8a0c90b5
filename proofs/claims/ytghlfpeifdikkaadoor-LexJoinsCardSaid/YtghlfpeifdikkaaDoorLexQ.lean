/- How many tokens a text has. -/
import Derived.Test.YtghlfpeifdikkaaDoorLexP
namespace Go.Proofs.YtghlfpeifdikkaaDoor.Lex

/-- what a scanner still has before it -/
def left (s : ByteArray) (t : St) : Nat := s.size - t.at' + (if t.begin' = s.size then 0 else 1)
theorem measure_at (s : ByteArray) (t : St) : (measure s t).at' = t.at' ∧ (measure s t).begin' = t.begin' ∧ (measure s t).line = t.line := by
  unfold measure; split <;> exact ⟨rfl, rfl, rfl⟩
theorem ends_left (s : ByteArray) (t : St) (h : Ok s t) (i : Nat) (hi : t.at' ≤ i) (hs : i ≤ s.size) {k : Tk} (hk : (ends s { t with at' := i }).1 = some k) :
    left s (ends s { t with at' := i }).2 < left s t := by
  have hb := h.b
  unfold ends at hk ⊢
  simp only at hk ⊢
  by_cases h1 : i = s.size
  · rw [if_pos h1] at hk ⊢
    by_cases h2 : i = t.begin'
    · rw [if_pos h2] at hk; cases hk
    · rw [if_neg h2]
      unfold left
      simp only [h1, if_true]
      rw [if_neg (by omega)]; omega
  · rw [if_neg h1]
    obtain ⟨m1, m2, _⟩ := measure_at s ⟨i + 1, t.line + 1, i + 1, t.wrong⟩
    unfold left
    rw [m1, m2, if_neg (by omega : ¬ t.begin' = s.size)]
    simp only
    split <;> omega
theorem rd_left (s : ByteArray) (t : St) (h : Ok s t) {k : Tk} (hk : (rd s t).1 = some k) : left s (rd s t).2 < left s t := by
  have hb := h.b
  have hn := h.n
  have he := h.e
  have e2 := eol_ge s t.begin' hn
  have s1 := skip_le (fun j => blk (at_ s j)) s.size t.at'
  have s2 := skip_ge (fun j => blk (at_ s j)) s.size t.at' (by omega)
  unfold rd at hk ⊢
  by_cases hw : t.wrong.code = 0
  · rw [if_neg (by simp [hw])] at hk ⊢
    simp only at hk ⊢
    generalize skip (fun j => blk (at_ s j)) s.size t.at' = i at *
    by_cases c1 : i = s.size ∨ at_ s i = 10
    · rw [if_pos c1] at hk ⊢; exact ends_left s t h i s1 s2 hk
    · rw [if_neg c1] at hk ⊢
      by_cases c2 : at_ s i = 35
      · rw [if_pos c2] at hk ⊢
        exact ends_left s t h _ (Nat.le_trans s1 (eol_le s i)) (eol_ge s i s2) hk
      · rw [if_neg c2] at hk ⊢
        by_cases c3 : kd (at_ s i) = 0
        · rw [if_pos c3] at hk; cases hk
        · rw [if_neg c3] at hk ⊢
          by_cases c4 : bad s (kd (at_ s i)) i (rowEnd s (kd (at_ s i)) i) ≠ 0
          · rw [if_pos c4] at hk; cases hk
          · rw [if_neg c4]
            have hge : i + 1 ≤ rowEnd s (kd (at_ s i)) i := by
              unfold rowEnd
              split
              · exact Nat.le_refl _
              · exact skip_le _ _ _
            unfold left
            simp only
            omega
  · rw [if_pos hw] at hk; cases hk
theorem out_len (s : ByteArray) : ∀ (m : Nat) (t : St), left s t ≤ m → Ok s t → (out s t).1.length ≤ m := by
  intro m
  induction m with
  | zero =>
    intro t hm h
    rcases rd_out s t h with ⟨k, h1, _, _⟩ | ⟨_, h2, _, _⟩
    · have := rd_left s t h h1; omega
    · rw [h2]; simp
  | succ m ih =>
    intro t hm h
    rcases rd_out s t h with ⟨k, h1, h2, h3⟩ | ⟨_, h2, _, _⟩
    · have := rd_left s t h h1
      have := ih _ (by omega) h3
      rw [h2]; simp; omega
    · rw [h2]; simp
theorem start_ok (s : ByteArray) (h : s.size ≤ 65536) : Ok s (start s) := by
  unfold start
  rw [if_neg (by omega)]
  exact ok_start s 0 1 (Nat.zero_le _) (Nat.le_refl _)
theorem all_len (s : ByteArray) : (all s).1.length ≤ 65537 := by
  by_cases h : 65536 < s.size
  · unfold all; rw [if_pos h]; simp
  · rw [← out_all]
    have hs := start_ok s (by omega)
    have := out_len s (left s (start s)) _ (Nat.le_refl _) hs
    have hl : left s (start s) ≤ 65537 := by
      unfold left; split <;> omega
    omega

end Go.Proofs.YtghlfpeifdikkaaDoor.Lex
