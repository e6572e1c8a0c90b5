/- Two texts, one behind the other. -/
import Derived.Test.YtghlfpeifdikkaaDoorLexL5
import Derived.Test.YtghlfpeifdikkaaDoorLexU
import Derived.IntWalk
namespace Go.Proofs.YtghlfpeifdikkaaDoor
open Go.RowKit Go.Proofs.YtghlfpeifdikkaaDoor.Lex

theorem line_toks (s : ByteArray) (no : Nat) : ∀ m i, s.size - i ≤ m → ∀ t ∈ (lineFrom s 0 s.size no i).1, t.line = no := by
  intro m
  induction m with
  | zero => intro i h; rw [line_over (by omega)]; simp
  | succ m ih =>
    intro i h
    by_cases hi : i < s.size
    · by_cases h35 : at_ s i = 35
      · rw [line_remark hi h35]; simp
      · by_cases hb : blk (at_ s i) = true
        · rw [line_skip hi h35 hb]; exact ih _ (by omega)
        · have hb' : blk (at_ s i) = false := by simpa using hb
          by_cases hk : kd (at_ s i) = 0
          · rw [line_byte hi h35 hb' hk]; simp
          · rw [line_tok hi h35 hb' rfl hk]
            split
            · simp
            · intro t ht
              rcases List.mem_cons.1 ht with h1 | h1
              · rw [h1]; rfl
              · exact ih _ (by have := (tokEnd_gt hi rfl).1; omega) t h1
    · rw [line_over hi]; simp
theorem lineR_toks (s : ByteArray) (no : Nat) : ∀ t ∈ (lineR s no).1, t.line = no := by
  unfold lineR
  split
  · simp
  · exact line_toks s no _ 0 (Nat.le_refl _)
theorem lines_toks (s : ByteArray) : ∀ m no i, s.size - i ≤ m → ∀ t ∈ (linesFrom s no i).1, t.line ≤ no + (s.size - i) := by
  intro m
  induction m with
  | zero => intro no i h; rw [lines_end _ _ _ (by omega)]; simp
  | succ m ih =>
    intro no i h
    by_cases hi : i < s.size
    · rw [lines_step s no i hi]
      have hl := lineR_toks (s.extract i (eol s i)) no
      split
      · intro t ht; have := hl t ht; omega
      · intro t ht
        have h1 := eol_le s i
        rcases List.mem_append.1 ht with h2 | h2
        · have := hl t h2; omega
        · rcases List.mem_cons.1 h2 with h3 | h3
          · rw [h3]; simp only; omega
          · have := ih (no + 1) (eol s i + 1) (by omega) t h3
            omega
    · rw [lines_end _ _ _ (by omega)]; simp
theorem all_toks (s : ByteArray) : ∀ t ∈ (all s).1, t.line ≤ 65537 := by
  unfold all
  split
  · simp
  · intro t ht
    have := lines_toks s _ 1 0 (Nat.le_refl _) t ht
    omega
theorem LawJoins_big (a b : ByteArray) (w : World) (ha : a.size ≤ 140737488351232) (hb : b.size ≤ 140737488351232) (hbig : 16777216 < a.size ∨ 16777216 < b.size ∨ 65536 ≤ a.size + b.size) : Calls Tryd.prog 7 #[.string a, .string b] w fun e w' => e = .returned (.bool true) ∧ Below w.heap.size w w' := by
  by_cases h1 : 16777216 < a.size
  · go_enter Tryd.func7, Tryd.ntmps7
    go_wp2
    all_goals (go_ret; exact ⟨rfl, Below.refl _ _⟩)
  · by_cases h2 : 16777216 < b.size
    · go_enter Tryd.func7, Tryd.ntmps7
      go_wp2
      all_goals (go_ret; exact ⟨rfl, Below.refl _ _⟩)
    · have h3 : 65536 ≤ a.size + b.size := by omega
      clear hbig
      go_enter Tryd.func7, Tryd.ntmps7
      go_wp2
      all_goals (go_ret; exact ⟨rfl, Below.refl _ _⟩)
/-- what follows a text that is cut behind a line's end -/
def nln : ByteArray := ⟨#[10]⟩
theorem cut_facts (a : ByteArray) : (a ++ nln).size = a.size + 1 ∧ at_ (a ++ nln) ((a ++ nln).size - 1) = 10 ∧ nl (a ++ nln) (a ++ nln).size = nl a a.size + 1 := by
  have hz : (a ++ nln).size = a.size + 1 := by rw [ByteArray.size_append]; rfl
  have h10 : at_ (a ++ nln) a.size = 10 := by
    have := at_right a nln 0 (by decide)
    rw [Nat.add_zero] at this
    rw [this]; rfl
  refine ⟨hz, by rw [hz]; exact h10, ?_⟩
  rw [hz, nl_succ, if_pos h10]
  have : ∀ k, k ≤ a.size → nl (a ++ nln) k = nl a k := by
    intro k
    induction k with
    | zero => intro _; rfl
    | succ k ih => intro h; rw [nl_succ, nl_succ, ih (by omega), at_left a nln k (by omega)]
  rw [this _ (Nat.le_refl _)]
set_option maxHeartbeats 4000000 in
set_option maxRecDepth 100000 in
theorem LawJoins_one (a b : ByteArray) (w : World) (z : Nat → Int) (hab : a.size + b.size < 65536) (hE : ET w) (hz : TabAny w z) (hg : 1 < w.heap.size) (hc : (all (a ++ nln)).2.code ≠ 0) :
    Calls Tryd.prog 7 #[.string a, .string b] w fun e w' => e = .returned (.bool true) ∧ Below w.heap.size w w' := by
  obtain ⟨f1, f2, f3⟩ := cut_facts a
  have hj : (all (a ++ nln ++ b)).2 = (all (a ++ nln)).2 := join_wrong (by omega) f2 (by omega) hc
  have H1 := Sd.mk (lexAll_any (a ++ nln) w (by omega))
  have H2 := Sd.mk (fun w1 => lexAll_any b w1 (by omega))
  have H3 := Sd.mk (fun w1 => lexAll_any (a ++ nln ++ b) w1 (by rw [ByteArray.size_append]; omega))
  obtain ⟨X, hX⟩ := error_any z (all (a ++ nln)).2 (all_bd _).1 (all_bd _).2.1 (all_bd _).2.2
  obtain ⟨x, hx⟩ : ∃ x, (all (a ++ nln)).2 = x := ⟨_, rfl⟩
  rw [hx] at hX hc hj
  have HX := Sd.mk hX
  have HXX := Sd.mk hx
  have HJ := Sd.mk hj
  have HC := Sd.mk hc
  have HE := Sd.mk hE
  have HZ := Sd.mk hz
  have HG := Sd.mk hg
  have n1 := nilErr
  have n2 := metErr
  have t1 : ¬ 9223372036854775807 < a.size + 1 := by omega
  have t2 : ¬ 9223372036854775807 < a.size + 1 + b.size := by omega
  clear hE hc hX hx hz hg hj f1 f2 f3
  unfold nln at *
  have i1 : a.size ≤ 16777216 := by omega
  have i2 : b.size ≤ 16777216 := by omega
  go_enter Tryd.func7, Tryd.ntmps7
  go_wp2_with fail
  refine H1.out.mono ?_
  rintro e w1 ⟨lv1, ev1, rfl, hev1, _, hb1⟩
  rw [HXX.out] at hev1
  rcases hev1 with ⟨h, _⟩ | ⟨_, F1, rfl, _, hF1⟩
  · exact absurd h HC.out
  have HB1 := Sd.mk hb1
  have HF1 := Sd.mk hF1
  clear hb1 hF1
  go_wp2_with fail
  refine (H2.out _).mono ?_
  rintro e w2 ⟨lv2, ev2, rfl, _, _, hb2⟩
  have HB2 := Sd.mk hb2
  clear hb2
  go_wp2_with fail
  refine (H3.out _).mono ?_
  rintro e w3 ⟨lv3, ev3, rfl, hev3, hown3, hb3⟩
  rw [HJ.out] at hev3 hown3
  rw [if_neg HC.out] at hown3
  obtain ⟨A, cap, rfl⟩ := own_slice hown3
  rcases hev3 with ⟨h, _⟩ | ⟨_, F3, rfl, _, hF3⟩
  · exact absurd h HC.out
  have hb12 := HB1.out.trans (HB2.out.mono HB1.out.size)
  have HB3 := Sd.mk (hb12.trans (hb3.mono hb12.size))
  have HF3 := Sd.mk hF3
  have HF13 := Sd.mk ((HF1.out.below HB2.out HF1.out.lt).below hb3 (HF1.out.below HB2.out HF1.out.lt).lt)
  clear hb3 hF3 hown3 hb12
  go_wp2_with fail
  refine (awake_any _ (HE.out.move HB3.out)).mono ?_
  rintro e w4 ⟨rfl, hb4⟩
  have HB4 := Sd.mk (HB3.out.trans (hb4.mono HB3.out.size))
  have HK1 := Sd.mk (HX.out w4 F3 (Nat.lt_of_lt_of_le HG.out HB4.out.size) (HZ.out.below HB4.out HG.out) (HF3.out.below hb4 HF3.out.lt))
  have HF14 := Sd.mk (HF13.out.below hb4 HF13.out.lt)
  clear hb4
  go_wp2_with fail
  refine HK1.out.mono ?_
  rintro e w5 ⟨rfl, hb5⟩
  have HB5 := Sd.mk (HB4.out.trans (hb5.mono HB4.out.size))
  have HK2 := Sd.mk (HX.out w5 F1 (Nat.lt_of_lt_of_le HG.out HB5.out.size) (HZ.out.below HB5.out HG.out) (HF14.out.below hb5 HF14.out.lt))
  clear hb5
  go_wp2_with fail
  refine HK2.out.mono ?_
  rintro e w6 ⟨rfl, hb6⟩
  have HB6 := Sd.mk (HB5.out.trans (hb6.mono HB5.out.size))
  clear hb6
  go_wp2
  go_ret
  exact ⟨rfl, HB6.out⟩
set_option maxHeartbeats 4000000 in
set_option maxRecDepth 100000 in
theorem LawJoins_two (a b : ByteArray) (w : World) (hab : a.size + b.size < 65536) (hE : ET w) (hc : (all (a ++ nln)).2.code = 0) (hc2 : (all b).2.code ≠ 0) :
    Calls Tryd.prog 7 #[.string a, .string b] w fun e w' => e = .returned (.bool true) ∧ Below w.heap.size w w' := by
  obtain ⟨f1, f2, f3⟩ := cut_facts a
  have hj := join_ok (b := b) (by omega) f2 (by omega) hc
  have hj2 : (all (a ++ nln ++ b)).2.code ≠ 0 := by rw [hj]; simp only; rw [on_code]; exact hc2
  have H1 := Sd.mk (lexAll_any (a ++ nln) w (by omega))
  have H2 := Sd.mk (fun w1 => lexAll_any b w1 (by omega))
  have H3 := Sd.mk (fun w1 => lexAll_any (a ++ nln ++ b) w1 (by rw [ByteArray.size_append]; omega))
  have HJ := Sd.mk hj2
  have HC := Sd.mk hc
  have HC2 := Sd.mk hc2
  have HE := Sd.mk hE
  have t1 : ¬ 9223372036854775807 < a.size + 1 := by omega
  have t2 : ¬ 9223372036854775807 < a.size + 1 + b.size := by omega
  clear hE hc hc2 hj hj2 f1 f2 f3
  unfold nln at *
  have i1 : a.size ≤ 16777216 := by omega
  have i2 : b.size ≤ 16777216 := by omega
  go_enter Tryd.func7, Tryd.ntmps7
  go_wp2_with fail
  refine H1.out.mono ?_
  rintro e w1 ⟨lv1, ev1, rfl, hev1, _, hb1⟩
  rcases hev1 with ⟨_, rfl⟩ | ⟨h, _⟩
  rotate_left
  · exact absurd HC.out h
  have HB1 := Sd.mk hb1
  clear hb1
  go_wp2_with fail
  refine (H2.out _).mono ?_
  rintro e w2 ⟨lv2, ev2, rfl, hev2, _, hb2⟩
  rcases hev2 with ⟨h, _⟩ | ⟨_, F2, rfl, _, hF2⟩
  · exact absurd h HC2.out
  have HB2 := Sd.mk hb2
  clear hb2 hF2
  go_wp2_with fail
  refine (H3.out _).mono ?_
  rintro e w3 ⟨lv3, ev3, rfl, hev3, hown3, hb3⟩
  rw [if_neg HJ.out] at hown3
  obtain ⟨A, cap, rfl⟩ := own_slice hown3
  rcases hev3 with ⟨h, _⟩ | ⟨_, F3, rfl, _, hF3⟩
  · exact absurd h HJ.out
  have hb12 := HB1.out.trans (HB2.out.mono HB1.out.size)
  have HB3 := Sd.mk (hb12.trans (hb3.mono hb12.size))
  clear hb3 hF3 hown3 hb12
  go_wp2_with fail
  refine (awake_any _ (HE.out.move HB3.out)).mono ?_
  rintro e w4 ⟨rfl, hb4⟩
  have HB4 := Sd.mk (HB3.out.trans (hb4.mono HB3.out.size))
  clear hb4
  go_wp2
  go_ret
  exact ⟨rfl, HB4.out⟩
theorem byte_eq (s : ByteArray) (j : Nat) (h : j < s.size) (c : Nat) (b : Bool) (hc : (at_ s j == c) = b) : (((s[j]'h).toNat : Int) == (c : Int)) = b := by
  rw [get_at s j h]
  rw [← hc, Bool.eq_iff_iff]; simp; omega
theorem app_left (L M : List Tk) (d n : Nat) (h : n < L.length) (h2 : n < (L ++ M.map (Tk.on d)).length) : (L ++ M.map (Tk.on d))[n] = L[n] := by
  rw [List.getElem_append_left h]
theorem app_right (L M : List Tk) (d q : Nat) (h : q < M.length) (h2 : L.length + q < (L ++ M.map (Tk.on d)).length) : (L ++ M.map (Tk.on d))[L.length + q] = (M[q]).on d := by
  rw [List.getElem_append_right (by omega)]
  simp
set_option maxHeartbeats 8000000 in
set_option maxRecDepth 100000 in
theorem LawJoins_ok (a b : ByteArray) (w : World) (hab : a.size + b.size < 65536) (hE : ET w) (hc : (all (a ++ nln)).2.code = 0) (hc2 : (all b).2.code = 0) :
    Calls Tryd.prog 7 #[.string a, .string b] w fun e w' => e = .returned (.bool true) ∧ Below w.heap.size w w' := by
  obtain ⟨f1, f2, f3⟩ := cut_facts a
  have hj := join_ok (b := b) (by omega) f2 (by omega) hc
  rw [f3] at hj
  have hn0 := nl_le a a.size
  have hj2 : (all (a ++ nln ++ b)).2.code = 0 := by rw [hj]; simp only; rw [on_code]; exact hc2
  have H1 := Sd.mk (lexAll_any (a ++ nln) w (by omega))
  have H2 := Sd.mk (fun w1 => lexAll_any b w1 (by omega))
  have H3 := Sd.mk (fun w1 => lexAll_any (a ++ nln ++ b) w1 (by rw [ByteArray.size_append]; omega))
  have hl1 := all_len (a ++ nln)
  have hl2 := all_len b
  have hlt := all_toks b
  obtain ⟨L, hL⟩ : ∃ L, (all (a ++ nln)).1 = L := ⟨_, rfl⟩
  obtain ⟨M, hM⟩ : ∃ M, (all b).1 = M := ⟨_, rfl⟩
  have hT : (all (a ++ nln ++ b)).1 = L ++ M.map (Tk.on (nl a a.size + 1)) := by rw [hj, hL, hM]
  rw [hL] at hl1
  rw [hM] at hl2 hlt
  have HLT := Sd.mk hlt
  have HT := Sd.mk hT
  have HL := Sd.mk hL
  have HM := Sd.mk hM
  have HC := Sd.mk hc
  have HC2 := Sd.mk hc2
  have HJ := Sd.mk hj2
  have HE := Sd.mk hE
  have t1 : ¬ 9223372036854775807 < a.size + 1 := by omega
  have t2 : ¬ 9223372036854775807 < a.size + 1 + b.size := by omega
  clear hE hc hc2 hj hj2 f1 f2 f3 hT hL hM hlt
  unfold nln at *
  have i1 : a.size ≤ 16777216 := by omega
  have i2 : b.size ≤ 16777216 := by omega
  go_enter Tryd.func7, Tryd.ntmps7
  go_wp2_with fail
  refine H1.out.mono ?_
  rintro e w1 ⟨lv1, ev1, rfl, hev1, hown1, hb1⟩
  rw [if_pos HC.out, HL.out] at hown1
  obtain ⟨A1, c1, rfl⟩ := own_slice hown1
  rcases hev1 with ⟨_, rfl⟩ | ⟨h, _⟩
  rotate_left
  · exact absurd HC.out h
  have HB1 := Sd.mk hb1
  have HO1 := Sd.mk hown1
  clear hb1 hown1
  go_wp2_with fail
  refine (H2.out _).mono ?_
  rintro e w2 ⟨lv2, ev2, rfl, hev2, hown2, hb2⟩
  rw [if_pos HC2.out, HM.out] at hown2
  obtain ⟨A2, c2, rfl⟩ := own_slice hown2
  rcases hev2 with ⟨_, rfl⟩ | ⟨h, _⟩
  rotate_left
  · exact absurd HC2.out h
  have HO1b := Sd.mk (ownsRow_below HO1.out hb2 (fun g e => (HO1.out.lt g e).2))
  have HB2 := Sd.mk (HB1.out.trans (hb2.mono HB1.out.size))
  have HO2 := Sd.mk hown2
  clear hb2 hown2
  go_wp2_with fail
  refine (H3.out _).mono ?_
  rintro e w3 ⟨lv3, ev3, rfl, hev3, hown3, hb3⟩
  rw [if_pos HJ.out, HT.out] at hown3
  obtain ⟨A3, c3, rfl⟩ := own_slice hown3
  rcases hev3 with ⟨_, rfl⟩ | ⟨h, _⟩
  rotate_left
  · exact absurd HJ.out h
  have HO1c := Sd.mk (ownsRow_below HO1b.out hb3 (fun g e => (HO1b.out.lt g e).2))
  have HO2c := Sd.mk (ownsRow_below HO2.out hb3 (fun g e => (HO2.out.lt g e).2))
  have HB3 := Sd.mk (HB2.out.trans (hb3.mono HB2.out.size))
  have HO3 := Sd.mk hown3
  clear hb3 hown3
  have hlen3 : (L ++ M.map (Tk.on (nl a a.size + 1))).length = L.length + M.length := by simp
  rw [hlen3]
  clear hlen3
  go_wp2
  go_loop [12, 13] (fun ln i => ∃ k : Nat, k ≤ a.size ∧ i = .int .i64 k ∧ ln = .int .i64 ((nl a k : Int) + 1)) (fun _ i => a.size - (intOf i).toNat)
  case atStart => exact ⟨0, by omega, rfl, rfl⟩
  case round =>
    obtain ⟨k, hk, rfl, rfl⟩ := hrel
    have hkl := nl_le a k
    by_cases hlt : k < a.size
    · have HS := Sd.mk (nl_succ a k)
      by_cases h10 : at_ a k = 10
      · have hb := byte_eq a k hlt 10 true (by rw [h10]; rfl)
        have H10 := Sd.mk h10
        clear h10
        go_wp2
        go_round
        case rel => exact ⟨k + 1, by omega, by go_num, by rw [HS.out, if_pos H10.out]; go_num⟩
        case measure => simp [intOf]; omega
      · have hb := byte_eq a k hlt 10 false (by simp [h10])
        have H10 := Sd.mk h10
        clear h10
        go_wp2
        go_round
        case rel => exact ⟨k + 1, by omega, by go_num, by rw [HS.out, if_neg H10.out]; go_num⟩
        case measure => simp [intOf]; omega
    · obtain rfl : k = a.size := by omega
      generalize nl a a.size = n0 at *
      go_wp2
      go_loopw [14] (fun iv wr => ∃ n : Nat, n ≤ L.length + M.length ∧ iv = .int .i64 n ∧ Sd (Below w3.heap.size w3 wr)) (fun iv _ => L.length + M.length - (intOf iv).toNat)
      case atStart => exact ⟨0, by omega, rfl, ⟨Below.refl _ _⟩⟩
      case round =>
        obtain ⟨n, hn, rfl, HW⟩ := hrel
        by_cases hlt2 : n < L.length + M.length
        · have hlt3 : n < (L ++ M.map (Tk.on (n0 + 1))).length := by simp; omega
          rcases own_cells (ownsRow_below HO3.out HW.out (fun g e => (HO3.out.lt g e).2)) with ⟨_, h⟩ | ⟨g3, cap3, hv3, _, hg3, _, _, hcell3⟩
          · rw [h] at hlt3; simp at hlt3
          · obtain rfl : A3 = some ⟨g3, 0, none⟩ := by simp at hv3; exact hv3.1
            obtain ⟨a0, a1, a2, a3, a4⟩ := hcell3 n hlt3
            clear hcell3 hv3
            by_cases hnl : n < L.length
            · rcases own_cells (ownsRow_below HO1c.out HW.out (fun g e => (HO1c.out.lt g e).2)) with ⟨_, h⟩ | ⟨g1, cap1, hv1, _, hg1, _, _, hcell1⟩
              · rw [h] at hnl; simp at hnl
              · obtain rfl : A1 = some ⟨g1, 0, none⟩ := by simp at hv1; exact hv1.1
                obtain ⟨b0, b1, b2, b3, b4⟩ := hcell1 n hnl
                clear hcell1 hv1
                rw [app_left L M _ n hnl hlt3] at a0 a1 a2 a3 a4
                generalize L[n] = k at *
                clear hlt3
                go_wp2
                go_quiet (fail)
                go_wp2
                go_roundw
                case rel => exact ⟨n + 1, by omega, by go_num, ⟨Below.drewN (HW.out.alloc HW.out.size _)⟩⟩
                case measure => simp [intOf]; omega
            · obtain ⟨q, rfl⟩ : ∃ q, n = L.length + q := ⟨n - L.length, by omega⟩
              have hq : q < M.length := by omega
              have hline := HLT.out M[q] (List.getElem_mem hq)
              rcases own_cells (ownsRow_below HO2c.out HW.out (fun g e => (HO2c.out.lt g e).2)) with ⟨_, h⟩ | ⟨g2, cap2, hv2, _, hg2, _, _, hcell2⟩
              · rw [h] at hq; simp at hq
              · obtain rfl : A2 = some ⟨g2, 0, none⟩ := by simp at hv2; exact hv2.1
                obtain ⟨b0, b1, b2, b3, b4⟩ := hcell2 q hq
                clear hcell2 hv2
                rw [app_right L M _ q hq hlt3] at a0 a1 a2 a3 a4
                generalize M[q] = k at *
                simp only [Tk.on, Int.natCast_add, Int.cast_ofNat_Int] at a0 a1 a2 a3 a4
                clear hlt3
                go_wp2
                have e1 : IntKind.i64.wrap ((L.length : Int) + (q : Int) - (L.length : Int)) = (q : Int) := by
                  rw [show (L.length : Int) + (q : Int) - (L.length : Int) = (q : Int) from by omega]
                  exact IntWalk.i64_in _ (by omega)
                have e2 : (0 : Int) ≤ (q : Int) := by omega
                have e3 : (q : Int) < (M.length : Int) := by omega
                go_quiet (fail)
                clear e1
                go_wp2
                go_roundw
                case rel => exact ⟨L.length + q + 1, by omega, by go_num, ⟨Below.drewN (HW.out.alloc HW.out.size _)⟩⟩
                case measure => simp [intOf]; omega
        · obtain rfl : n = L.length + M.length := by omega
          go_wp2_with fail
          refine (awake_any _ (HE.out.move (HB3.out.trans (HW.out.mono HB3.out.size)))).mono ?_
          rintro e w4 ⟨rfl, hb4⟩
          have HB4 := Sd.mk ((HB3.out.trans (HW.out.mono HB3.out.size)).trans (hb4.mono (HB3.out.trans (HW.out.mono HB3.out.size)).size))
          clear hb4
          go_wp2
          go_ret
          exact ⟨rfl, HB4.out⟩
theorem LawJoins_any (a b : ByteArray) (ha : a.size ≤ 140737488351232) (hb : b.size ≤ 140737488351232) (w : World) (hE : ET w) (hT : ∃ z, TabAny w z) (hg : 1 < w.heap.size) :
    Calls Tryd.prog 7 #[.string a, .string b] w fun e w' => e = .returned (.bool true) ∧ Below w.heap.size w w' := by
  obtain ⟨z, hz⟩ := hT
  by_cases hbig : 16777216 < a.size ∨ 16777216 < b.size ∨ 65536 ≤ a.size + b.size
  · exact LawJoins_big a b w ha hb hbig
  · by_cases hc : (all (a ++ nln)).2.code = 0
    · by_cases hc2 : (all b).2.code = 0
      · exact LawJoins_ok a b w (by omega) hE hc hc2
      · exact LawJoins_two a b w (by omega) hE hc hc2
    · exact LawJoins_one a b w z (by omega) hE hz hg hc
end Go.Proofs.YtghlfpeifdikkaaDoor
