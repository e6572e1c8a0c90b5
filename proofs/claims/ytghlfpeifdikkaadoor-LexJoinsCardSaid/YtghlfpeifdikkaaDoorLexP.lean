/- The tokens of a text, in plain Lean: a scanner's step, and the document's answer line by line. -/
import Derived.Laws.BitsLemmas
namespace Go.Proofs.YtghlfpeifdikkaaDoor.Lex

/-- the byte at a place -/
def at_ (s : ByteArray) (i : Nat) : Nat := (s.get! i).toNat
/-- from i on, as long as p holds, up to n -/
def skip (p : Nat → Bool) (n i : Nat) : Nat := if _h : i < n ∧ p i = true then skip p n (i + 1) else i
termination_by n - i

theorem skip_go {p : Nat → Bool} {n i : Nat} (h : i < n) (hp : p i = true) : skip p n i = skip p n (i + 1) := by
  conv => lhs; unfold skip
  rw [dif_pos ⟨h, hp⟩]
theorem skip_stop {p : Nat → Bool} {n i : Nat} (h : ¬ (i < n ∧ p i = true)) : skip p n i = i := by
  unfold skip; rw [dif_neg h]
theorem skip_le (p : Nat → Bool) (n i : Nat) : i ≤ skip p n i := by
  induction h : n - i generalizing i with
  | zero => rw [skip_stop (by omega)]; omega
  | succ m ih =>
    by_cases hp : p i = true
    · rw [skip_go (by omega) hp]
      have := ih (i + 1) (by omega)
      omega
    · rw [skip_stop (by simp [hp])]; omega
theorem skip_ge (p : Nat → Bool) (n i : Nat) (hi : i ≤ n) : skip p n i ≤ n := by
  induction h : n - i generalizing i with
  | zero => rw [skip_stop (by omega)]; omega
  | succ m ih =>
    by_cases hp : p i = true
    · rw [skip_go (by omega) hp]; exact ih (i + 1) (by omega) (by omega)
    · rw [skip_stop (by simp [hp])]; omega
theorem skip_all (p : Nat → Bool) (n i : Nat) : ∀ j, i ≤ j → j < skip p n i → p j = true := by
  induction h : n - i generalizing i with
  | zero => intro j h1 h2; rw [skip_stop (by omega)] at h2; omega
  | succ m ih =>
    intro j h1 h2
    by_cases hp : p i = true
    · rw [skip_go (by omega) hp] at h2
      by_cases hj : j = i
      · rw [hj]; exact hp
      · exact ih (i + 1) (by omega) j (by omega) h2
    · rw [skip_stop (by simp [hp])] at h2; omega
theorem skip_end (p : Nat → Bool) (n i : Nat) : skip p n i < n → p (skip p n i) = false := by
  induction h : n - i generalizing i with
  | zero => intro h1; rw [skip_stop (by omega)] at h1; omega
  | succ m ih =>
    intro h1
    by_cases hp : p i = true
    · rw [skip_go (by omega) hp] at h1 ⊢
      exact ih (i + 1) (by omega) h1
    · rw [skip_stop (by simp [hp])]; simpa using hp
/-- from any place within the row one comes to the same end -/
theorem skip_mid (p : Nat → Bool) (n i j : Nat) (h1 : i ≤ j) (h2 : j ≤ skip p n i) : skip p n j = skip p n i := by
  induction h : n - i generalizing i with
  | zero => rw [skip_stop (by omega)] at h2 ⊢; rw [skip_stop (by omega)]; omega
  | succ m ih =>
    by_cases hp : p i = true
    · rw [skip_go (by omega) hp] at h2 ⊢
      by_cases hj : j = i
      · rw [hj, skip_go (by omega) hp]
      · exact ih (i + 1) (by omega) h2 (by omega)
    · have hs : skip p n i = i := skip_stop (by simp [hp])
      rw [hs] at h2
      have e : j = i := by omega
      rw [e]

/-- with what sort of token a byte begins -/
def kd (c : Nat) : Nat := if 97 ≤ c ∧ c ≤ 122 then 1 else if 48 ≤ c ∧ c ≤ 57 then 2 else if c = 46 ∨ c = 47 ∨ c = 58 ∨ c = 42 then 3 else 0
def blk (c : Nat) : Bool := c == 32 || c == 9 || c == 13
structure Tk where
  kind : Nat
  text : ByteArray
  value : Nat
  line : Nat
  col : Nat
/-- what is wrong, where; code 0: nothing -/
structure Wr where
  code : Nat
  line : Nat
  col : Nat
def ok : Wr := ⟨0, 0, 0⟩
/-- the end of the line in which a place lies -/
def eol (s : ByteArray) (i : Nat) : Nat := skip (fun j => at_ s j != 10) s.size i
/-- the value of the digits from i on to j -/
def dval (s : ByteArray) (i j : Nat) : Nat := (List.range (j - i)).foldl (fun v k => min (10 * v + (at_ s (i + k) - 48)) 8589934592) 0

/-- a scanner's place -/
structure St where
  at' : Nat
  line : Nat
  begin' : Nat
  wrong : Wr

/-- the line at hand is too long -/
def measure (s : ByteArray) (t : St) : St := if eol s t.at' - t.at' > 200 then { t with wrong := ⟨93, t.line, 1⟩ } else t
def ends (s : ByteArray) (t : St) : Option Tk × St :=
  if t.at' = s.size then
    if t.at' = t.begin' then (none, t) else (some ⟨4, ByteArray.empty, 0, t.line, t.at' - t.begin' + 1⟩, { t with begin' := t.at' })
  else (some ⟨4, ⟨#[10]⟩, 0, t.line, t.at' - t.begin' + 1⟩, measure s { t with at' := t.at' + 1, line := t.line + 1, begin' := t.at' + 1 })
/-- a word or number that may be, or what is wrong -/
def bad (s : ByteArray) (k i j : Nat) : Nat := if k = 1 ∧ 16 < j - i then 92 else if k = 2 ∧ (4294967296 ≤ dval s i j ∨ 1 < j - i ∧ at_ s i = 48) then 91 else 0
def rowEnd (s : ByteArray) (k i : Nat) : Nat := if k = 3 then i + 1 else skip (fun j => kd (at_ s j) == k) s.size (i + 1)
/-- a scanner's step -/
def rd (s : ByteArray) (t : St) : Option Tk × St :=
  if t.wrong.code ≠ 0 then (none, t) else
  let i := skip (fun j => blk (at_ s j)) s.size t.at'
  if i = s.size ∨ at_ s i = 10 then ends s { t with at' := i }
  else if at_ s i = 35 then ends s { t with at' := eol s i }
  else
    let k := kd (at_ s i)
    if k = 0 then (none, { t with at' := i, wrong := ⟨90, t.line, i - t.begin' + 1⟩ })
    else
      let j := rowEnd s k i
      if bad s k i j ≠ 0 then (none, { t with at' := j, wrong := ⟨bad s k i j, t.line, i - t.begin' + 1⟩ })
      else (some ⟨k, s.extract i j, if k = 2 then dval s i j else 0, t.line, i - t.begin' + 1⟩, { t with at' := j })
def start (s : ByteArray) : St := if 65536 < s.size then ⟨0, 1, 0, ⟨2, 0, 0⟩⟩ else measure s ⟨0, 1, 0, ok⟩

/-- the document's answer: the tokens of a line [b, e) from a place on, up to what is wrong -/
def lineFrom (s : ByteArray) (b e no i : Nat) : List Tk × Wr :=
  if _h : i < e then
    if at_ s i = 35 then ([], ok)
    else if blk (at_ s i) then lineFrom s b e no (i + 1)
    else
      let k := kd (at_ s i)
      if k = 0 then ([], ⟨90, no, i - b + 1⟩)
      else
        let j := if k = 3 then i + 1 else skip (fun j => kd (at_ s j) == k) e (i + 1)
        if bad s k i j ≠ 0 then ([], ⟨bad s k i j, no, i - b + 1⟩)
        else
          let r := lineFrom s b e no (max j (i + 1))
          (⟨k, s.extract i j, if k = 2 then dval s i j else 0, no, i - b + 1⟩ :: r.1, r.2)
  else ([], ok)
termination_by e - i
/-- and of the lines from a place on -/
def linesFrom (s : ByteArray) (no i : Nat) : List Tk × Wr :=
  if _h : i < s.size then
    let e := eol s i
    if 200 < e - i then ([], ⟨93, no, 1⟩)
    else
      let l := lineFrom s i e no i
      if l.2.code ≠ 0 then l
      else
        let r := linesFrom s (no + 1) (max (e + 1) (i + 1))
        (l.1 ++ ⟨4, if e < s.size then ⟨#[10]⟩ else ByteArray.empty, 0, no, e - i + 1⟩ :: r.1, r.2)
  else ([], ok)
termination_by s.size - i
def all (s : ByteArray) : List Tk × Wr := if 65536 < s.size then ([], ⟨2, 0, 0⟩) else linesFrom s 1 0


/-! ### The scanner gives the document's answer -/
/-- what is still to come -/
def out (s : ByteArray) (t : St) : List Tk × Wr :=
  if t.wrong.code ≠ 0 then ([], t.wrong)
  else if t.begin' = s.size then ([], ok)
  else
    let e := eol s t.begin'
    let l := lineFrom s t.begin' e t.line t.at'
    if l.2.code ≠ 0 then l
    else
      let r := linesFrom s (t.line + 1) (max (e + 1) (t.begin' + 1))
      (l.1 ++ ⟨4, if e < s.size then ⟨#[10]⟩ else ByteArray.empty, 0, t.line, e - t.begin' + 1⟩ :: r.1, r.2)
/-- what holds between two steps -/
structure Ok (s : ByteArray) (t : St) : Prop where
  w : t.wrong.code = 0 → t.wrong = ok
  b : t.begin' ≤ t.at'
  e : t.at' ≤ eol s t.begin'
  n : t.begin' ≤ s.size
  l : 1 ≤ t.line

theorem eol_le (s : ByteArray) (i : Nat) : i ≤ eol s i := skip_le _ _ _
theorem eol_ge (s : ByteArray) (i : Nat) (h : i ≤ s.size) : eol s i ≤ s.size := skip_ge _ _ _ h
theorem eol_byte (s : ByteArray) (i : Nat) (h : eol s i < s.size) : at_ s (eol s i) = 10 := by
  have := skip_end (fun j => at_ s j != 10) s.size i h
  have h2 : (at_ s (eol s i) != 10) = false := this
  simpa using h2
theorem eol_in (s : ByteArray) (i j : Nat) (h1 : i ≤ j) (h2 : j < eol s i) : at_ s j ≠ 10 := by
  have := skip_all (fun j => at_ s j != 10) s.size i j h1 h2
  simpa using this
theorem eol_mid (s : ByteArray) (i j : Nat) (h1 : i ≤ j) (h2 : j ≤ eol s i) : eol s j = eol s i := skip_mid _ _ _ _ h1 h2

theorem out_start (s : ByteArray) (i no : Nat) (hi : i ≤ s.size) : out s (measure s ⟨i, no, i, ok⟩) = linesFrom s no i := by
  unfold measure
  simp only
  unfold linesFrom
  by_cases h : i < s.size
  · rw [dif_pos h]
    by_cases h200 : eol s i - i > 200
    · rw [if_pos h200]
      simp only [out]
      rw [if_pos (by simp), if_pos h200]
    · rw [if_neg h200]
      simp only [out, ok]
      rw [if_neg (by simp), if_neg (by omega), if_neg h200]
  · rw [dif_neg h]
    have e : i = s.size := by omega
    have e2 : eol s i = i := by have := eol_le s i; have := eol_ge s i hi; omega
    rw [if_neg (by omega)]
    simp [out, ok, e]
theorem ok_start (s : ByteArray) (i no : Nat) (hi : i ≤ s.size) (hn : 1 ≤ no) : Ok s (measure s ⟨i, no, i, ok⟩) := by
  unfold measure
  split
  · exact ⟨by simp, Nat.le_refl _, eol_le s i, hi, hn⟩
  · exact ⟨fun _ => rfl, Nat.le_refl _, eol_le s i, hi, hn⟩
theorem out_all (s : ByteArray) : out s (start s) = all s := by
  unfold start all
  split
  · simp [out]
  · exact out_start s 0 1 (Nat.zero_le _)

/-- blanks at the front count for nothing -/
theorem line_blank (s : ByteArray) (b e no : Nat) (he : e = eol s b) (hn : b ≤ s.size) : ∀ i, b ≤ i → i ≤ e → lineFrom s b e no i = lineFrom s b e no (skip (fun j => blk (at_ s j)) s.size i) := by
  intro i
  induction h : e - i generalizing i with
  | zero =>
    intro h1 h2
    have : i = e := by omega
    have hx : skip (fun j => blk (at_ s j)) s.size i = i ∨ ¬ (skip (fun j => blk (at_ s j)) s.size i < e) := by have := skip_le (fun j => blk (at_ s j)) s.size i; omega
    rcases hx with hx | hx
    · rw [hx]
    · unfold lineFrom; rw [dif_neg (by omega), dif_neg hx]
  | succ m ih =>
    intro h1 h2
    have hi : i < s.size := by have := eol_ge s b hn; omega
    by_cases hb : blk (at_ s i) = true
    · rw [skip_go hi hb, ← ih (i + 1) (by omega) (by omega) (by omega)]
      conv => lhs; unfold lineFrom
      have h35 : ¬ at_ s i = 35 := by intro h; rw [h] at hb; cases hb
      rw [dif_pos (by omega), if_neg h35, if_pos hb]
    · rw [skip_stop (by simp [hb])]
theorem skip_blank_le (s : ByteArray) (b e : Nat) (he : e = eol s b) (hn : b ≤ s.size) : ∀ i, b ≤ i → i ≤ e → skip (fun j => blk (at_ s j)) s.size i ≤ e := by
  intro i h1 h2
  rcases Nat.lt_or_ge e (skip (fun j => blk (at_ s j)) s.size i) with h | h
  · have hb := skip_all (fun j => blk (at_ s j)) s.size i e h2 h
    have hs : e < s.size := by have := skip_ge (fun j => blk (at_ s j)) s.size i (by have := eol_ge s b hn; omega); omega
    have h10 := eol_byte s b (by omega)
    rw [← he] at h10
    have hb2 : blk (at_ s e) = true := hb
    rw [h10] at hb2
    cases hb2
  · exact h
/-- a row of one sort ends in its line -/
theorem row_in (s : ByteArray) (b e k : Nat) (he : e = eol s b) (hn : b ≤ s.size) (hk : k ≠ 0) : ∀ i, b ≤ i → i ≤ e → skip (fun j => kd (at_ s j) == k) s.size i = skip (fun j => kd (at_ s j) == k) e i := by
  intro i
  induction h : e - i generalizing i with
  | zero =>
    intro h1 h2
    have hie : i = e := by omega
    rw [skip_stop (n := e) (by omega)]
    refine skip_stop ?_
    rintro ⟨h3, h4⟩
    have h10 := eol_byte s b (by omega)
    rw [← he, ← hie] at h10
    have h5 : (kd (at_ s i) == k) = true := h4
    rw [h10] at h5
    have h6 : kd 10 = k := eq_of_beq h5
    exact hk (h6.symm.trans (by decide))
  | succ m ih =>
    intro h1 h2
    have hi : i < s.size := by have := eol_ge s b hn; omega
    by_cases hb : (kd (at_ s i) == k) = true
    · rw [skip_go (p := fun j => kd (at_ s j) == k) hi hb, skip_go (p := fun j => kd (at_ s j) == k) (n := e) (i := i) (by omega) hb]; exact ih (i + 1) (by omega) (by omega) (by omega)
    · rw [skip_stop (by simp [hb]), skip_stop (by simp [hb])]

theorem lines_end (s : ByteArray) (no i : Nat) (h : s.size ≤ i) : linesFrom s no i = ([], ok) := by
  unfold linesFrom; rw [dif_neg (by omega)]
/-- a line's end is told -/
theorem out_ends (s : ByteArray) (t : St) (h : Ok s t) (hw : t.wrong.code = 0) (i : Nat) (hi : i = eol s t.begin') (hl : lineFrom s t.begin' (eol s t.begin') t.line t.at' = ([], ok)) :
    (∃ k, (ends s { t with at' := i }).1 = some k ∧ out s t = (k :: (out s (ends s { t with at' := i }).2).1, (out s (ends s { t with at' := i }).2).2) ∧ Ok s (ends s { t with at' := i }).2) ∨
    ((ends s { t with at' := i }).1 = none ∧ out s t = ([], ok) ∧ (ends s { t with at' := i }).2 = { t with at' := i } ∧ t.begin' = s.size ∧ i = s.size) := by
  have hwo := h.w hw
  have hb := h.n
  have e1 := eol_le s t.begin'
  have e2 := eol_ge s t.begin' hb
  have ho : out s t = if t.begin' = s.size then ([], ok) else
      (⟨4, if i < s.size then ⟨#[10]⟩ else ByteArray.empty, 0, t.line, i - t.begin' + 1⟩ :: (linesFrom s (t.line + 1) (max (i + 1) (t.begin' + 1))).1, (linesFrom s (t.line + 1) (max (i + 1) (t.begin' + 1))).2) := by
    unfold out
    rw [if_neg (by simp [hw])]
    rw [← hi] at hl
    simp only [← hi, hl]
    simp [ok]
  unfold ends
  simp only
  by_cases hs : i = s.size
  · rw [if_pos hs]
    by_cases hbs : i = t.begin'
    · rw [if_pos hbs]
      refine .inr ⟨rfl, ?_, rfl, by omega, hs⟩
      rw [ho, if_pos (by omega)]
    · rw [if_neg hbs]
      refine .inl ⟨_, rfl, ?_, ⟨fun _ => hwo, Nat.le_refl _, eol_le s i, by simp only; omega, h.l⟩⟩
      rw [ho, if_neg (by omega), lines_end _ _ _ (by omega), if_neg (by omega)]
      simp [out, hw, hs]
  · rw [if_neg hs]
    have hm : out s (measure s ⟨i + 1, t.line + 1, i + 1, t.wrong⟩) = linesFrom s (t.line + 1) (i + 1) := by rw [hwo]; exact out_start s (i + 1) (t.line + 1) (by omega)
    have hk : Ok s (measure s ⟨i + 1, t.line + 1, i + 1, t.wrong⟩) := by rw [hwo]; exact ok_start s (i + 1) (t.line + 1) (by omega) (by omega)
    refine .inl ⟨_, rfl, ?_, hk⟩
    rw [hm, ho, if_neg (by omega), if_pos (by omega), show max (i + 1) (t.begin' + 1) = i + 1 from by omega]

/-- a line's tokens, its end, and what follows -/
def close (s : ByteArray) (t : St) (l : List Tk × Wr) : List Tk × Wr :=
  if l.2.code ≠ 0 then l
  else (l.1 ++ ⟨4, if eol s t.begin' < s.size then ⟨#[10]⟩ else ByteArray.empty, 0, t.line, eol s t.begin' - t.begin' + 1⟩ :: (linesFrom s (t.line + 1) (max (eol s t.begin' + 1) (t.begin' + 1))).1, (linesFrom s (t.line + 1) (max (eol s t.begin' + 1) (t.begin' + 1))).2)
theorem out_in (s : ByteArray) (t : St) (hw : t.wrong.code = 0) (hb : t.begin' ≠ s.size) : out s t = close s t (lineFrom s t.begin' (eol s t.begin') t.line t.at') := by
  unfold out close
  rw [if_neg (by simp [hw]), if_neg hb]
/-- A step gives the first of what is still to come, or tells that there is none. -/
theorem rd_out (s : ByteArray) (t : St) (h : Ok s t) :
    (∃ k, (rd s t).1 = some k ∧ out s t = (k :: (out s (rd s t).2).1, (out s (rd s t).2).2) ∧ Ok s (rd s t).2) ∨
    ((rd s t).1 = none ∧ out s t = ([], (rd s t).2.wrong) ∧ out s (rd s t).2 = out s t ∧ ((rd s t).2.wrong.code ≠ 0 ∨ Ok s (rd s t).2)) := by
  by_cases hw : t.wrong.code = 0
  rotate_left
  · refine .inr ?_
    unfold rd
    rw [if_pos hw]
    refine ⟨rfl, ?_, rfl, .inl hw⟩
    simp [out, hw]
  have hwo := h.w hw
  have hn := h.n
  have e1 := eol_le s t.begin'
  have e2 := eol_ge s t.begin' hn
  have hlb := line_blank s t.begin' (eol s t.begin') t.line rfl hn t.at' h.b h.e
  have hsb := skip_blank_le s t.begin' (eol s t.begin') rfl hn t.at' h.b h.e
  have hsl := skip_le (fun j => blk (at_ s j)) s.size t.at'
  have hse := skip_end (fun j => blk (at_ s j)) s.size t.at'
  have hb := h.b
  unfold rd
  rw [if_neg (by simp [hw])]
  simp only
  generalize hi : skip (fun j => blk (at_ s j)) s.size t.at' = i at *
  have key : ∀ i', i' = eol s t.begin' → lineFrom s t.begin' (eol s t.begin') t.line t.at' = ([], ok) →
      (∃ k, (ends s { t with at' := i' }).1 = some k ∧ out s t = (k :: (out s (ends s { t with at' := i' }).2).1, (out s (ends s { t with at' := i' }).2).2) ∧ Ok s (ends s { t with at' := i' }).2) ∨
      ((ends s { t with at' := i' }).1 = none ∧ out s t = ([], (ends s { t with at' := i' }).2.wrong) ∧ out s (ends s { t with at' := i' }).2 = out s t ∧ ((ends s { t with at' := i' }).2.wrong.code ≠ 0 ∨ Ok s (ends s { t with at' := i' }).2)) := by
    intro i' hi' hl
    rcases out_ends s t h hw i' hi' hl with h1 | ⟨h1, h2, h3, h4, h5⟩
    · exact .inl h1
    · refine .inr ⟨h1, ?_, ?_, .inr ?_⟩
      · rw [h2, h3]; simp only; rw [hwo]
      · rw [h3]; simp [out, hw, h4]
      · rw [h3]; exact ⟨fun _ => hwo, by simp only; omega, by simp only; omega, hn, h.l⟩
  by_cases h10 : i = s.size ∨ at_ s i = 10
  · rw [if_pos h10]
    have hie : i = eol s t.begin' := by
      rcases h10 with h10 | h10
      · omega
      · rcases Nat.lt_or_ge i (eol s t.begin') with hlt | hge
        · exact absurd h10 (eol_in s t.begin' i (by omega) hlt)
        · omega
    refine key i hie ?_
    rw [hlb]
    unfold lineFrom
    rw [dif_neg (by omega)]
  · rw [if_neg h10]
    have hlt : i < eol s t.begin' := by
      rcases Nat.lt_or_ge i (eol s t.begin') with hlt | hge
      · exact hlt
      · have : i = eol s t.begin' := by omega
        have := eol_byte s t.begin' (by omega)
        exact absurd (.inr (by rw [‹i = eol s t.begin'›]; exact this)) h10
    by_cases h35 : at_ s i = 35
    · rw [if_pos h35]
      refine key _ (eol_mid s t.begin' i (by omega) (by omega)) ?_
      rw [hlb]
      unfold lineFrom
      rw [dif_pos hlt, if_pos h35]
    · rw [if_neg h35]
      have hnb : ¬ blk (at_ s i) = true := by
        have := hse (by omega)
        simpa using this
      have hlf : lineFrom s t.begin' (eol s t.begin') t.line t.at' = lineFrom s t.begin' (eol s t.begin') t.line i := hlb
      have hun : lineFrom s t.begin' (eol s t.begin') t.line i = (if kd (at_ s i) = 0 then ([], ⟨90, t.line, i - t.begin' + 1⟩)
          else if bad s (kd (at_ s i)) i (rowEnd s (kd (at_ s i)) i) ≠ 0 then ([], ⟨bad s (kd (at_ s i)) i (rowEnd s (kd (at_ s i)) i), t.line, i - t.begin' + 1⟩)
          else (⟨kd (at_ s i), s.extract i (rowEnd s (kd (at_ s i)) i), if kd (at_ s i) = 2 then dval s i (rowEnd s (kd (at_ s i)) i) else 0, t.line, i - t.begin' + 1⟩ :: (lineFrom s t.begin' (eol s t.begin') t.line (rowEnd s (kd (at_ s i)) i)).1, (lineFrom s t.begin' (eol s t.begin') t.line (rowEnd s (kd (at_ s i)) i)).2)) := by
        conv => lhs; unfold lineFrom
        rw [dif_pos hlt, if_neg h35, if_neg hnb]
        simp only
        by_cases hk : kd (at_ s i) = 0
        · rw [if_pos hk, if_pos hk]
        · have hj : (if kd (at_ s i) = 3 then i + 1 else skip (fun j => kd (at_ s j) == kd (at_ s i)) (eol s t.begin') (i + 1)) = rowEnd s (kd (at_ s i)) i := by
            unfold rowEnd
            rw [row_in s t.begin' (eol s t.begin') (kd (at_ s i)) rfl hn hk (i + 1) (by omega) (by omega)]
          rw [if_neg hk, if_neg hk, hj]
          have hge : i + 1 ≤ rowEnd s (kd (at_ s i)) i := by
            unfold rowEnd
            split
            · exact Nat.le_refl _
            · exact skip_le _ _ _
          rw [show max (rowEnd s (kd (at_ s i)) i) (i + 1) = rowEnd s (kd (at_ s i)) i from by omega]
      have hbs : t.begin' ≠ s.size := by omega
      by_cases hk : kd (at_ s i) = 0
      · rw [if_pos hk]
        refine .inr ⟨rfl, ?_, ?_, .inl (by simp)⟩
        · unfold out; rw [if_neg (by simp [hw]), if_neg hbs]; simp only [hlf, hun, if_pos hk]; simp
        · unfold out; rw [if_pos (by simp), if_neg (by simp [hw]), if_neg hbs]; simp only [hlf, hun, if_pos hk]; simp
      · rw [if_neg hk]
        by_cases hbad : bad s (kd (at_ s i)) i (rowEnd s (kd (at_ s i)) i) ≠ 0
        · rw [if_pos hbad]
          refine .inr ⟨rfl, ?_, ?_, .inl hbad⟩
          · unfold out; rw [if_neg (by simp [hw]), if_neg hbs]; simp only [hlf, hun, if_neg hk, if_pos hbad]
          · unfold out; rw [if_pos hbad, if_neg (by simp [hw]), if_neg hbs]; simp only [hlf, hun, if_neg hk, if_pos hbad]
        · rw [if_neg hbad]
          refine .inl ⟨_, rfl, ?_, ?_⟩
          · rw [out_in s t hw hbs, out_in s { t with at' := rowEnd s (kd (at_ s i)) i } hw hbs]
            simp only [hlf, hun, if_neg hk, if_neg hbad]
            unfold close
            by_cases hc : (lineFrom s t.begin' (eol s t.begin') t.line (rowEnd s (kd (at_ s i)) i)).2.code = 0
            · simp only [hc, ne_eq, not_true_eq_false, if_false, List.cons_append]
            · simp only [hc, ne_eq, not_false_eq_true, if_true]
          · refine ⟨fun _ => hwo, ?_, ?_, hn, h.l⟩
            · show t.begin' ≤ rowEnd s (kd (at_ s i)) i
              unfold rowEnd
              split
              · omega
              · have := skip_le (fun j => kd (at_ s j) == kd (at_ s i)) s.size (i + 1); omega
            · show rowEnd s (kd (at_ s i)) i ≤ eol s t.begin'
              unfold rowEnd
              split
              · omega
              · rw [row_in s t.begin' (eol s t.begin') (kd (at_ s i)) rfl hn hk (i + 1) (by omega) (by omega)]
                exact skip_ge _ _ _ (by omega)

end Go.Proofs.YtghlfpeifdikkaaDoor.Lex
