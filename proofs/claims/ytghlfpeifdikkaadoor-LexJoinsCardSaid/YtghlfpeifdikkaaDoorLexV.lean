/- A number's value: as the reference computes it, and as the scanner does; and a line's steps. -/
import Derived.Test.YtghlfpeifdikkaaDoorLexR
namespace Go.Proofs.YtghlfpeifdikkaaDoor.Lex
open Go Go.Proofs.YtghlfpeifdikkaaDoor

theorem at_extract (s : ByteArray) (i j k : Nat) (hj : j ≤ s.size) (hk : i + k < j) : at_ (s.extract i j) k = at_ s (i + k) := by
  have h1 : k < (s.extract i j).size := by rw [ByteArray.size_extract]; omega
  have h2 : i + k < s.size := by omega
  rw [← get_at _ k h1, ← get_at _ (i + k) h2, ByteArray.getElem_extract]
theorem dval_succ (s : ByteArray) (i k : Nat) : dval s i (i + (k + 1)) = min (10 * dval s i (i + k) + (at_ s (i + k) - 48)) 8589934592 := by
  unfold dval
  rw [show i + (k + 1) - i = k + 1 from by omega, show i + k - i = k from by omega, List.range_succ, List.foldl_append]
  rfl
theorem dval_num (s : ByteArray) (i j : Nat) (hj : j ≤ s.size) : ∀ k, i + k ≤ j → (fits (s.extract i j) k = true → dval s i (i + k) = numTo (s.extract i j) k) ∧ (fits (s.extract i j) k = false → 4294967296 ≤ dval s i (i + k)) := by
  intro k
  induction k with
  | zero => intro _; exact ⟨fun _ => by simp [dval, numTo], fun h => by simp [fits] at h⟩
  | succ k ih =>
    intro hk
    obtain ⟨h1, h2⟩ := ih (by omega)
    have ha := at_extract s i j k hj (by omega)
    have hs := dval_succ s i k
    constructor
    · intro h
      have h' := h
      simp only [fits, Bool.and_eq_true, decide_eq_true_eq] at h'
      have e := h1 h'.1
      rw [hs, e]
      simp only [numTo, ha] at h' ⊢
      omega
    · intro h
      rw [hs]
      cases hf : fits (s.extract i j) k with
      | true =>
        have e := h1 hf
        simp only [fits, hf, Bool.true_and, decide_eq_false_iff_not] at h
        simp only [numTo, ha] at h
        rw [e]; omega
      | false =>
        have := h2 hf
        omega
/-- the reference's number is the scanner's -/
theorem numV_eq (s : ByteArray) (i j : Nat) (hi : i ≤ j) (hj : j ≤ s.size) : numV (s.extract i j) = if bad s 2 i j ≠ 0 then (0, false) else (dval s i j, true) := by
  have hz : (s.extract i j).size = j - i := by rw [ByteArray.size_extract]; omega
  obtain ⟨h1, h2⟩ := dval_num s i j hj (j - i) (by omega)
  rw [show i + (j - i) = j from by omega] at h1 h2
  have ha : 1 < j - i → at_ (s.extract i j) 0 = at_ s i := fun h => at_extract s i j 0 hj (by omega)
  unfold numV bad
  rw [hz]
  by_cases c1 : 1 < j - i ∧ at_ (s.extract i j) 0 = 48
  · rw [if_pos c1, if_pos]
    rw [ha c1.1] at c1
    rw [if_neg (by omega), if_pos ⟨rfl, .inr c1⟩]; simp
  · rw [if_neg c1]
    have c1' : ¬ (1 < j - i ∧ at_ s i = 48) := fun h => c1 ⟨h.1, by rw [ha h.1]; exact h.2⟩
    cases hf : fits (s.extract i j) (j - i) with
    | true =>
      have e := h1 hf
      have hl := fits_le hf
      rw [if_pos rfl, if_neg]
      · rw [e]
      · rw [if_neg (by omega), if_neg (by omega)]; simp
    | false =>
      have := h2 hf
      rw [if_neg (by simp), if_pos]
      rw [if_neg (by omega), if_pos ⟨rfl, .inl this⟩]; simp

/-! ### a line's steps -/
section
variable {s : ByteArray} {no i : Nat}
theorem line_over (h : ¬ i < s.size) : lineFrom s 0 s.size no i = ([], ok) := by unfold lineFrom; rw [dif_neg h]
theorem line_remark (h : i < s.size) (h1 : at_ s i = 35) : lineFrom s 0 s.size no i = ([], ok) := by unfold lineFrom; rw [dif_pos h, if_pos h1]
theorem line_skip (h : i < s.size) (h1 : at_ s i ≠ 35) (h2 : blk (at_ s i) = true) : lineFrom s 0 s.size no i = lineFrom s 0 s.size no (i + 1) := by
  conv => lhs; unfold lineFrom
  rw [dif_pos h, if_neg h1, if_pos h2]
theorem line_byte (h : i < s.size) (h1 : at_ s i ≠ 35) (h2 : blk (at_ s i) = false) (h3 : kd (at_ s i) = 0) : lineFrom s 0 s.size no i = ([], ⟨90, no, i + 1⟩) := by
  unfold lineFrom
  rw [dif_pos h, if_neg h1, if_neg (by rw [h2]; simp)]
  simp only
  rw [if_pos h3]; simp
/-- where the token that begins at i ends -/
def tokEnd (s : ByteArray) (k i : Nat) : Nat := if k = 3 then i + 1 else rowN s k i
theorem tokEnd_gt {k : Nat} (hi : i < s.size) (hk : kd (at_ s i) = k) : i + 1 ≤ tokEnd s k i ∧ tokEnd s k i ≤ s.size := by
  unfold tokEnd
  split
  · omega
  · rw [rowN_go hi (by rw [hk]; simp)]
    exact ⟨skip_le _ _ _, skip_ge _ _ _ (by omega)⟩
def tokAt (s : ByteArray) (k no i : Nat) : Tk := ⟨k, s.extract i (tokEnd s k i), if k = 2 then dval s i (tokEnd s k i) else 0, no, i + 1⟩
theorem line_tok {k : Nat} (h : i < s.size) (h1 : at_ s i ≠ 35) (h2 : blk (at_ s i) = false) (hk : kd (at_ s i) = k) (h3 : k ≠ 0) :
    lineFrom s 0 s.size no i = if bad s k i (tokEnd s k i) ≠ 0 then ([], ⟨bad s k i (tokEnd s k i), no, i + 1⟩) else
      (tokAt s k no i :: (lineFrom s 0 s.size no (tokEnd s k i)).1, (lineFrom s 0 s.size no (tokEnd s k i)).2) := by
  have hj : (if k = 3 then i + 1 else skip (fun j => kd (at_ s j) == k) s.size (i + 1)) = tokEnd s k i := by
    unfold tokEnd
    split
    · rfl
    · rw [rowN_go h (by rw [hk]; simp)]; rfl
  have hg := (tokEnd_gt h hk).1
  conv => lhs; unfold lineFrom
  rw [dif_pos h, if_neg h1, if_neg (by rw [h2]; simp)]
  simp only [hk]
  rw [if_neg h3, hj, show max (tokEnd s k i) (i + 1) = tokEnd s k i from by omega]
  rfl
end
end Go.Proofs.YtghlfpeifdikkaaDoor.Lex
