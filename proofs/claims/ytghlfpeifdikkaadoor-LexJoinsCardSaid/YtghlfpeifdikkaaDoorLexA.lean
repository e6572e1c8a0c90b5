/- A line within its text; and an append of a whole list of tokens. -/
import Derived.Laws.AppendOwnNone
import Derived.Test.YtghlfpeifdikkaaDoorLexL
namespace Go.Proofs.YtghlfpeifdikkaaDoor.Lex
open Go Go.Proofs.YtghlfpeifdikkaaDoor

theorem skip_shift (p q : Nat → Bool) (b n : Nat) : ∀ i, (∀ j, i ≤ j → j < n → p j = q (b + j)) → b + skip p n i = skip q (b + n) (b + i) := by
  intro i
  induction hm : n - i generalizing i with
  | zero => intro _; rw [skip_stop (by omega), skip_stop (by omega)]
  | succ m ih =>
    intro h
    have hi := h i (Nat.le_refl _) (by omega)
    by_cases hp : p i = true
    · rw [skip_go (by omega) hp, skip_go (p := q) (n := b + n) (by omega) (by rw [← hi]; exact hp)]
      exact ih (i + 1) (by omega) (fun j h1 h2 => h j (by omega) h2)
    · rw [skip_stop (by simp [hp]), skip_stop (by rw [← hi]; simp [hp])]
theorem dval_none (s : ByteArray) (i j : Nat) (h : j - i = 0) : dval s i j = 0 := by unfold dval; rw [h]; rfl
theorem dval_shift (s : ByteArray) (b e i j : Nat) (he : e ≤ s.size) (hj : b + j ≤ e) : dval (s.extract b e) i j = dval s (b + i) (b + j) := by
  have key : ∀ m, i + m ≤ j → dval (s.extract b e) i (i + m) = dval s (b + i) (b + i + m) := by
    intro m
    induction m with
    | zero => intro _; rw [dval_none _ _ _ (by omega), dval_none _ _ _ (by omega)]
    | succ m ih =>
      intro hm
      rw [dval_succ, dval_succ, ih (by omega), at_extract s b e (i + m) he (by omega), show b + (i + m) = b + i + m from by omega]
  by_cases h : i ≤ j
  · have := key (j - i) (by omega)
    rw [show i + (j - i) = j from by omega, show b + i + (j - i) = b + j from by omega] at this
    exact this
  · rw [dval_none _ _ _ (by omega), dval_none _ _ _ (by omega)]
theorem bad_shift (s : ByteArray) (b e k i j : Nat) (he : e ≤ s.size) (hi : b + i < e) (hj : b + j ≤ e) : bad (s.extract b e) k i j = bad s k (b + i) (b + j) := by
  unfold bad
  rw [dval_shift s b e i j he hj, at_extract s b e i he hi, show b + j - (b + i) = j - i from by omega]
theorem lineFrom_shift (s : ByteArray) (b e no : Nat) (he : e ≤ s.size) (hb : b ≤ e) : ∀ i, i ≤ e - b → lineFrom (s.extract b e) 0 (e - b) no i = lineFrom s b e no (b + i) := by
  intro i
  induction hm : e - b - i using Nat.strongRecOn generalizing i with
  | _ m ih =>
    intro hi
    unfold lineFrom
    by_cases hlt : i < e - b
    · have ha := at_extract s b e i he (by omega)
      rw [dif_pos hlt, dif_pos (by omega), ha]
      by_cases h35 : at_ s (b + i) = 35
      · rw [if_pos h35, if_pos h35]
      · rw [if_neg h35, if_neg h35]
        by_cases hbl : blk (at_ s (b + i)) = true
        · rw [if_pos hbl, if_pos hbl]
          exact ih (e - b - (i + 1)) (by omega) (i + 1) rfl (by omega)
        · rw [if_neg hbl, if_neg hbl]
          simp only
          by_cases hk : kd (at_ s (b + i)) = 0
          · rw [if_pos hk, if_pos hk, show i - 0 + 1 = b + i - b + 1 from by omega]
          · rw [if_neg hk, if_neg hk]
            obtain ⟨j, hj⟩ : ∃ j, (if kd (at_ s (b + i)) = 3 then i + 1 else skip (fun j => kd (at_ (s.extract b e) j) == kd (at_ s (b + i))) (e - b) (i + 1)) = j := ⟨_, rfl⟩
            have hj2 : (if kd (at_ s (b + i)) = 3 then b + i + 1 else skip (fun j => kd (at_ s j) == kd (at_ s (b + i))) e (b + i + 1)) = b + j := by
              rw [← hj]
              split
              · omega
              · have := skip_shift (fun j => kd (at_ (s.extract b e) j) == kd (at_ s (b + i))) (fun j => kd (at_ s j) == kd (at_ s (b + i))) b (e - b) (i + 1) (fun j h1 h2 => by show (kd (at_ (s.extract b e) j) == _) = (kd (at_ s (b + j)) == _); rw [at_extract s b e j he (by omega)])
                rw [this]; congr 1; omega
            have hj3 : i + 1 ≤ j ∧ j ≤ e - b := by
              rw [← hj]
              split
              · omega
              · exact ⟨skip_le _ _ _, skip_ge _ _ _ (by omega)⟩
            rw [hj, hj2, bad_shift s b e _ i j he (by omega) (by omega), dval_shift s b e i j he (by omega), show i - 0 + 1 = b + i - b + 1 from by omega]
            by_cases hbad : bad s (kd (at_ s (b + i))) (b + i) (b + j) ≠ 0
            · rw [if_pos hbad, if_pos hbad]
            · rw [if_neg hbad, if_neg hbad, show max j (i + 1) = j from by omega, show max (b + j) (b + i + 1) = b + j from by omega, ih (e - b - j) (by omega) j rfl hj3.2]
              rw [ByteArray.extract_extract, show min (b + j) e = b + j from by omega]
    · rw [dif_neg hlt, dif_neg (by omega)]
theorem lineFrom_len (s : ByteArray) (b e no : Nat) : ∀ i, (lineFrom s b e no i).1.length ≤ e - i := by
  intro i
  induction hm : e - i using Nat.strongRecOn generalizing i with
  | _ m ih =>
    unfold lineFrom
    by_cases hlt : i < e
    · rw [dif_pos hlt]
      by_cases h35 : at_ s i = 35
      · rw [if_pos h35]; simp
      · rw [if_neg h35]
        by_cases hbl : blk (at_ s i) = true
        · rw [if_pos hbl]
          have := ih (e - (i + 1)) (by omega) (i + 1) rfl
          omega
        · rw [if_neg hbl]
          by_cases hk : kd (at_ s i) = 0
          · rw [if_pos hk]; exact Nat.zero_le _
          · rw [if_neg hk]
            simp only
            generalize (if kd (at_ s i) = 3 then i + 1 else skip (fun j => kd (at_ s j) == kd (at_ s i)) e (i + 1)) = j
            have := ih (e - max j (i + 1)) (by omega) (max j (i + 1)) rfl
            by_cases hbad : bad s (kd (at_ s i)) i j ≠ 0
            · rw [if_pos hbad]; exact Nat.zero_le _
            · rw [if_neg hbad, List.length_cons]
              omega
    · rw [dif_neg hlt]; simp
/-- a line, cut out of its text -/
theorem lineR_cut (s : ByteArray) (b e no : Nat) (he : e ≤ s.size) (hb : b ≤ e) : lineR (s.extract b e) no = if 200 < e - b then ([], ⟨93, no, 1⟩) else lineFrom s b e no b := by
  have hz : (s.extract b e).size = e - b := by rw [ByteArray.size_extract]; omega
  have := lineFrom_shift s b e no he hb 0 (by omega)
  unfold lineR
  rw [hz, this]; rfl
/-- one line of the text -/
theorem lines_step (s : ByteArray) (no i : Nat) (hi : i < s.size) : linesFrom s no i = if (lineR (s.extract i (eol s i)) no).2.code ≠ 0 then lineR (s.extract i (eol s i)) no else
    ((lineR (s.extract i (eol s i)) no).1 ++ ⟨4, s.extract (eol s i) (eol s i + 1), 0, no, eol s i - i + 1⟩ :: (linesFrom s (no + 1) (eol s i + 1)).1, (linesFrom s (no + 1) (eol s i + 1)).2) := by
  have h1 := eol_le s i
  have h2 := eol_ge s i (by omega)
  have ht : (if eol s i < s.size then ⟨#[10]⟩ else ByteArray.empty) = s.extract (eol s i) (eol s i + 1) := by
    split
    · rename_i h
      have h10 := eol_byte s i h
      rw [ByteArray.extract_add_one (by omega)]
      have : s[eol s i]'h = 10 := UInt8.toNat_inj.1 (by rw [get_at s _ h, h10]; rfl)
      rw [this]; rfl
    · exact (ByteArray.size_eq_zero_iff.1 (by rw [ByteArray.size_extract]; omega)).symm
  conv => lhs; unfold linesFrom
  rw [dif_pos hi]
  simp only
  rw [lineR_cut s i (eol s i) no h2 h1, ht, show max (eol s i + 1) (i + 1) = eol s i + 1 from by omega]
  by_cases h200 : 200 < eol s i - i
  · rw [if_pos h200, if_pos h200, if_pos (by simp)]
  · rw [if_neg h200, if_neg h200]
theorem lineR_len (s : ByteArray) (no : Nat) : (lineR s no).1.length ≤ s.size := by
  unfold lineR
  split
  · simp
  · have := lineFrom_len s 0 s.size no 0; omega
end Go.Proofs.YtghlfpeifdikkaaDoor.Lex

namespace Go.Proofs.YtghlfpeifdikkaaDoor
open Go.RowKit Go.Proofs.YtghlfpeifdikkaaDoor.Lex
section
variable {P : Program}
/-- append of a whole list of its own to another one -/
theorem wpList_append_list {w : World} {ops : Array Oper} {rest : List Oper} {o : Oper} {a : Act} {Q : Exit → Act → World → Prop} (hgd : o.guard = none) (s x : Operand) (t : TypeId)
    (ho : o.op = .call { callee := .builtin .append, args := #[s, x], argTypes := #[t, t] })
    (base : Nat) (e : TypeId) (i : TypeInfo) (z : Value) (size bytes : Nat) (ht : P.underlying t = some (.slice e)) (hi : P.info? e = some i) (hz : i.zero = some z)
    (hsize : i.size = size) (hby : i.bytes = bytes) (hzs : z.cells.size = size) (hsz : 0 < size)
    (v : Value) (n : Nat) (xs : List Value) (hs : a.eval s = v) (hown : w.ownsRow base e size v n xs)
    (v2 : Value) (base2 m : Nat) (news : List Value) (hx : a.eval x = v2) (hown2 : w.ownsRow base2 e size v2 m news) (h1 : ∀ u ∈ news, u.oneCell' = true)
    (h63 : n + m ≤ maxLen) (hbytes : (n + m) * bytes ≤ 140737488355328) (hbase : base ≤ w.heap.size)
    (h : ∀ v' w', w'.ownsRow base e size v' (n + m) (xs ++ news) → w.grownBy w' v.ownBlock → wpList P ops Q rest (a.put o.dst v') w') : wpList P ops Q (o :: rest) a w := by
  rcases hown2.2 with ⟨hv2, hm⟩ | ⟨g, cap, cur, hv2, r2, r3, r4, r5, r6, r7⟩
  · have hn : news = [] := List.eq_nil_of_length_eq_zero (by have := hown2.1; rw [hm] at this; simpa using this)
    refine wpList_append_own_none hgd s x t ho base e i size ht hi v n xs hs hown (by rw [hx, hv2]) (h v w ?_ ⟨rfl, rfl, rfl, Nat.le_refl _, fun _ _ _ => rfl⟩)
    rw [hm, hn, List.append_nil]; exact hown
  · exact wpList_append_own w hgd s x t ho base e i z size bytes ht hi hz hsize hby hzs hsz v n xs hs hown ⟨g, 0, none⟩ m cap news (by rw [hx, hv2]) hown2.1 (hown2.cells (g := g) (by rw [hv2]; rfl)) h1 h63 hbytes hbase (fun v' w' a b _ => h v' w' a b)
end
theorem tks_one (l : List Tk) : ∀ u ∈ tksC l, u.oneCell' = true := by
  intro u hu
  obtain ⟨t, _, ht⟩ := List.mem_flatMap.1 hu
  exact tk_one t u ht
end Go.Proofs.YtghlfpeifdikkaaDoor
