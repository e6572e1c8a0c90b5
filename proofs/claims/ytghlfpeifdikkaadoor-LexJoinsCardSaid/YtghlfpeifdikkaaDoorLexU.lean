/- A text that is cut behind a line's end: its tokens are those of its parts, with the lines of the second one counted on. -/
import Derived.Test.YtghlfpeifdikkaaDoorLexA
namespace Go.Proofs.YtghlfpeifdikkaaDoor.Lex
open Go Go.Proofs.YtghlfpeifdikkaaDoor

/-- a token, so many lines on -/
def Tk.on (d : Nat) (t : Tk) : Tk := { t with line := t.line + d }
def Wr.on (d : Nat) (x : Wr) : Wr := if x.code = 0 then x else { x with line := x.line + d }
def resOn (d : Nat) (r : List Tk × Wr) : List Tk × Wr := (r.1.map (Tk.on d), r.2.on d)
theorem on_code (d : Nat) (x : Wr) : (x.on d).code = x.code := by unfold Wr.on; split <;> rfl
theorem ok_on (d : Nat) : ok.on d = ok := rfl
theorem lineFrom_on (s : ByteArray) (no d : Nat) : ∀ m i, s.size - i ≤ m → lineFrom s 0 s.size (no + d) i = resOn d (lineFrom s 0 s.size no i) := by
  intro m
  induction m with
  | zero => intro i h; rw [line_over (by omega), line_over (by omega)]; rfl
  | succ m ih =>
    intro i h
    by_cases hi : i < s.size
    · by_cases h35 : at_ s i = 35
      · rw [line_remark hi h35, line_remark hi h35]; rfl
      · by_cases hb : blk (at_ s i) = true
        · rw [line_skip hi h35 hb, line_skip hi h35 hb]; exact ih _ (by omega)
        · have hb' : blk (at_ s i) = false := by simpa using hb
          by_cases hk : kd (at_ s i) = 0
          · rw [line_byte hi h35 hb' hk, line_byte hi h35 hb' hk]; rfl
          · rw [line_tok hi h35 hb' rfl hk, line_tok hi h35 hb' rfl hk]
            by_cases hbad : bad s (kd (at_ s i)) i (tokEnd s (kd (at_ s i)) i) ≠ 0
            · rw [if_pos hbad, if_pos hbad]
              unfold resOn Wr.on
              rw [if_neg hbad]; rfl
            · rw [if_neg hbad, if_neg hbad, ih _ (by have := (tokEnd_gt hi rfl).1; omega)]
              rfl
    · rw [line_over hi, line_over hi]; rfl
theorem lineR_on (s : ByteArray) (no d : Nat) : lineR s (no + d) = resOn d (lineR s no) := by
  unfold lineR
  split
  · rfl
  · exact lineFrom_on s no d _ 0 (Nat.le_refl _)

theorem skip_more (p : Nat → Bool) (n k i : Nat) (h : skip p n i < n) : skip p (n + k) i = skip p n i := by
  induction hm : n - i generalizing i with
  | zero => rw [skip_stop (by omega)] at h; omega
  | succ m ih =>
    by_cases hp : p i = true
    · rw [skip_go (n := n) (by omega) hp] at h ⊢
      rw [skip_go (n := n + k) (by omega) hp]
      exact ih (i + 1) h (by omega)
    · rw [skip_stop (by simp [hp]), skip_stop (by simp [hp])]
theorem skip_same (p q : Nat → Bool) (n i : Nat) (h : ∀ j, i ≤ j → j < n → p j = q j) : skip p n i = skip q n i := by
  have := skip_shift p q 0 n i (fun j h1 h2 => by rw [Nat.zero_add]; exact h j h1 h2)
  simpa using this
theorem at_left (x b : ByteArray) (i : Nat) (h : i < x.size) : at_ (x ++ b) i = at_ x i := by
  have h2 : i < (x ++ b).size := by rw [ByteArray.size_append]; omega
  rw [← get_at _ i h2, ← get_at _ i h, ByteArray.getElem_append_left h]
theorem at_right (x b : ByteArray) (i : Nat) (h : i < b.size) : at_ (x ++ b) (x.size + i) = at_ b i := by
  have h2 : x.size + i < (x ++ b).size := by rw [ByteArray.size_append]; omega
  rw [← get_at _ _ h2, ← get_at _ i h, ByteArray.getElem_append_right (by omega)]
  simp
theorem cut_left (x b : ByteArray) (i j : Nat) (h : j ≤ x.size) : (x ++ b).extract i j = x.extract i j := by
  apply ByteArray.ext
  simp only [ByteArray.data_extract, ByteArray.data_append]
  rw [Array.extract_append]
  have : j - x.data.size = 0 := by have : x.data.size = x.size := rfl; omega
  rw [this]; simp
theorem cut_right (x b : ByteArray) (i j : Nat) : (x ++ b).extract (x.size + i) (x.size + j) = b.extract i j := by
  apply ByteArray.ext
  simp only [ByteArray.data_extract, ByteArray.data_append]
  rw [Array.extract_append]
  have hx : x.data.size = x.size := rfl
  rw [hx, show x.size + i - x.size = i from by omega, show x.size + j - x.size = j from by omega]
  have : x.data.extract (x.size + i) (x.size + j) = #[] := by
    apply Array.eq_empty_of_size_eq_zero
    rw [Array.size_extract]; omega
  rw [this]; simp
/-- the ends of lines in the first n bytes -/
def nl (s : ByteArray) : Nat → Nat
  | 0 => 0
  | n + 1 => nl s n + if at_ s n = 10 then 1 else 0
theorem nl_succ (s : ByteArray) (n : Nat) : nl s (n + 1) = nl s n + if at_ s n = 10 then 1 else 0 := rfl
theorem nl_le (s : ByteArray) (n : Nat) : nl s n ≤ n := by
  induction n with
  | zero => exact Nat.le_refl _
  | succ n ih => unfold nl; split <;> omega
theorem nl_none (s : ByteArray) (i j : Nat) (hij : i ≤ j) (h : ∀ k, i ≤ k → k < j → at_ s k ≠ 10) : nl s j = nl s i := by
  induction hm : j - i generalizing j with
  | zero => rw [show j = i from by omega]
  | succ m ih =>
    obtain ⟨j', rfl⟩ : ∃ j', j = j' + 1 := ⟨j - 1, by omega⟩
    rw [nl_succ, if_neg (h j' (by omega) (by omega)), Nat.add_zero]
    exact ih j' (by omega) (fun k h1 h2 => h k h1 (by omega)) (by omega)
section
variable {x b : ByteArray}
theorem eol_lt (hx : 0 < x.size) (hl : at_ x (x.size - 1) = 10) (i : Nat) (hi : i < x.size) : eol x i < x.size := by
  rcases Nat.lt_or_ge (eol x i) x.size with h | h
  · exact h
  · exact absurd hl (eol_in x i (x.size - 1) (by omega) (by omega))
theorem eol_left (hx : 0 < x.size) (hl : at_ x (x.size - 1) = 10) (i : Nat) (hi : i < x.size) : eol (x ++ b) i = eol x i := by
  have h := eol_lt hx hl i hi
  unfold eol at *
  rw [ByteArray.size_append, skip_more (fun j => at_ (x ++ b) j != 10) x.size b.size i]
  · exact skip_same _ _ _ _ (fun j _ h2 => by rw [at_left x b j h2])
  · rw [skip_same _ (fun j => at_ x j != 10) _ _ (fun j _ h2 => by rw [at_left x b j h2])]; exact h
theorem eol_right (i : Nat) : eol (x ++ b) (x.size + i) = x.size + eol b i := by
  unfold eol
  rw [ByteArray.size_append]
  exact (skip_shift _ _ x.size b.size i (fun j _ h2 => by rw [at_right x b j h2])).symm
theorem lines_right (no d : Nat) : ∀ m i, b.size - i ≤ m → linesFrom (x ++ b) (no + d) (x.size + i) = resOn d (linesFrom b no i) := by
  intro m
  induction m generalizing no with
  | zero =>
    intro i h
    rw [lines_end _ _ _ (by rw [ByteArray.size_append]; omega), lines_end _ _ _ (by omega)]; rfl
  | succ m ih =>
    intro i h
    by_cases hi : i < b.size
    · rw [lines_step (x ++ b) _ _ (by rw [ByteArray.size_append]; omega), lines_step b _ _ hi, eol_right, cut_right, lineR_on]
      have h1 := eol_le b i
      rw [show x.size + eol b i + 1 = x.size + (eol b i + 1) from by omega, cut_right, show no + d + 1 = (no + 1) + d from by omega, ih (no + 1) (eol b i + 1) (by omega)]
      have hc : (resOn d (lineR (b.extract i (eol b i)) no)).2.code = (lineR (b.extract i (eol b i)) no).2.code := on_code _ _
      rw [hc]
      by_cases h0 : (lineR (b.extract i (eol b i)) no).2.code ≠ 0
      · rw [if_pos h0, if_pos h0]
      · rw [if_neg h0, if_neg h0]
        simp only [resOn, List.map_append, List.map_cons]
        rw [show x.size + eol b i - (x.size + i) + 1 = eol b i - i + 1 from by omega]
        rfl
    · rw [lines_end _ _ _ (by rw [ByteArray.size_append]; omega), lines_end _ _ _ (by omega)]; rfl
theorem lines_left (hx : 0 < x.size) (hl : at_ x (x.size - 1) = 10) (no : Nat) : ∀ m i, i ≤ x.size → x.size - i ≤ m →
    ((linesFrom x no i).2.code ≠ 0 → (linesFrom (x ++ b) no i).2 = (linesFrom x no i).2) ∧
    ((linesFrom x no i).2.code = 0 → linesFrom (x ++ b) no i = ((linesFrom x no i).1 ++ (linesFrom (x ++ b) (no + (nl x x.size - nl x i)) x.size).1, (linesFrom (x ++ b) (no + (nl x x.size - nl x i)) x.size).2)) := by
  intro m
  induction m generalizing no with
  | zero =>
    intro i h h0
    have : i = x.size := by omega
    subst this
    rw [lines_end x _ _ (Nat.le_refl _)]
    refine ⟨fun h => absurd rfl h, fun _ => ?_⟩
    simp
  | succ m ih =>
    intro i h h0
    by_cases hi : i < x.size
    · have he := eol_lt hx hl i hi
      have h1 := eol_le x i
      have hm : x.size - (eol x i + 1) ≤ m := by omega
      have hs := lines_step (x ++ b) no i (by rw [ByteArray.size_append]; omega)
      rw [eol_left hx hl i hi, cut_left x b _ _ (by omega), cut_left x b _ _ (by omega)] at hs
      have hs2 := lines_step x no i hi
      have hn : nl x (eol x i + 1) = nl x i + 1 := by
        rw [nl_succ, if_pos (eol_byte x i he), nl_none x i (eol x i) h1 (fun k a c => eol_in x i k a c)]
      have hn2 : nl x (eol x i + 1) ≤ nl x x.size := by
        clear hs hs2 hn
        have mono : ∀ k, nl x (eol x i + 1) ≤ nl x (eol x i + 1 + k) := by
          intro k
          induction k with
          | zero => exact Nat.le_refl _
          | succ k ih => rw [← Nat.add_assoc, nl_succ]; exact Nat.le_trans ih (Nat.le_add_right _ _)
        have := mono (x.size - (eol x i + 1))
        rwa [show eol x i + 1 + (x.size - (eol x i + 1)) = x.size from by omega] at this
      obtain ⟨i1, i2⟩ := ih (no + 1) (eol x i + 1) he hm
      rw [hs, hs2]
      by_cases hc : (lineR (x.extract i (eol x i)) no).2.code ≠ 0
      · rw [if_pos hc, if_pos hc]
        exact ⟨fun _ => rfl, fun h => absurd h hc⟩
      · rw [if_neg hc, if_neg hc]
        refine ⟨fun h => i1 h, fun h => ?_⟩
        have := i2 h
        rw [this]
        rw [show no + 1 + (nl x x.size - nl x (eol x i + 1)) = no + (nl x x.size - nl x i) from by omega]
        simp
    · have : i = x.size := by omega
      subst this
      rw [lines_end x _ _ (Nat.le_refl _)]
      refine ⟨fun h => absurd rfl h, fun _ => ?_⟩
      simp
theorem join_wrong (hx : 0 < x.size) (hl : at_ x (x.size - 1) = 10) (hs : x.size + b.size ≤ 65536) (hc : (all x).2.code ≠ 0) : (all (x ++ b)).2 = (all x).2 := by
  unfold all at *
  rw [ByteArray.size_append, if_neg (by omega)]
  rw [if_neg (by omega)] at hc ⊢
  exact (lines_left hx hl 1 _ 0 (by omega) (Nat.le_refl _)).1 hc
theorem join_ok (hx : 0 < x.size) (hl : at_ x (x.size - 1) = 10) (hs : x.size + b.size ≤ 65536) (hc : (all x).2.code = 0) : all (x ++ b) = ((all x).1 ++ ((all b).1.map (Tk.on (nl x x.size))), (all b).2.on (nl x x.size)) := by
  unfold all at *
  rw [ByteArray.size_append, if_neg (by omega)]
  rw [if_neg (by omega)] at hc ⊢
  rw [if_neg (by omega)]
  rw [(lines_left hx hl 1 _ 0 (by omega) (Nat.le_refl _)).2 hc]
  have h0 : nl x 0 = 0 := rfl
  rw [h0, Nat.sub_zero]
  have := lines_right (x := x) (b := b) 1 (nl x x.size) _ 0 (Nat.le_refl _)
  rw [Nat.add_zero] at this
  rw [this]
  rfl
end
end Go.Proofs.YtghlfpeifdikkaaDoor.Lex
