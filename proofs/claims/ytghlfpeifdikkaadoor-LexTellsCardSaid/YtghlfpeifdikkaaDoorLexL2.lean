/- The statement LexTells, walked: for any text it returns true. -/
import Derived.Test.YtghlfpeifdikkaaDoorLexK
import Derived.Test.YtghlfpeifdikkaaDoorLexT
namespace Go.Proofs.YtghlfpeifdikkaaDoor
open Go.RowKit Go.Proofs.YtghlfpeifdikkaaDoor.Lex

/-- a remark has begun -/
def shp (s : ByteArray) (a j : Nat) : Bool := (List.range (j - a)).any fun d => at_ s (a + d) == 35
theorem shp_zero (s : ByteArray) (a : Nat) : shp s a a = false := by unfold shp; rw [Nat.sub_self]; rfl
theorem shp_succ (s : ByteArray) (a j : Nat) (h : a ≤ j) : shp s a (j + 1) = (shp s a j || (at_ s j == 35)) := by
  unfold shp
  rw [show j + 1 - a = (j - a) + 1 from by omega, List.range_succ, List.any_append]
  simp only [List.any_cons, List.any_nil, Bool.or_false]
  rw [show a + (j - a) = j from by omega]
theorem shp_iff (s : ByteArray) (a j : Nat) : shp s a j = true ↔ Sharp s a j := by
  unfold shp Sharp
  simp only [List.any_eq_true, List.mem_range, beq_iff_eq]
  constructor
  · rintro ⟨d, h1, h2⟩; exact ⟨a + d, by omega, by omega, h2⟩
  · rintro ⟨i, h1, h2, h3⟩; exact ⟨i - a, by omega, by rw [show a + (i - a) = i from by omega]; exact h3⟩
theorem tells_cons {s : ByteArray} {a no b : Nat} {k : Tk} {l : List Tk} (h : Tells s a no b (k :: l)) : ∃ p, a ≤ p ∧ b + k.col = p + 1 ∧ k.line = no ∧ Gap s a p ∧ p + k.text.size ≤ s.size ∧ s.extract p (p + k.text.size) = k.text ∧
    ((k.kind ≠ 4 ∧ Bare s a p ∧ Tells s (p + k.text.size) no b l) ∨ (k.kind = 4 ∧ Tells s (p + k.text.size) (no + 1) (p + k.text.size) l)) := by
  cases h with
  | tok _ _ _ _ _ p h1 h2 h3 h4 h5 h6 h7 h8 => exact ⟨p, h1, h2, h3, h4.gap, h5, h6, .inl ⟨h7, h4, h8⟩⟩
  | fin _ _ _ _ _ p h1 h2 h3 h4 h5 h6 h7 h8 => exact ⟨p, h1, h2, h3, h4, h5, h6, .inr ⟨h7, h8⟩⟩
theorem tells_nil {s : ByteArray} {a no b : Nat} (h : Tells s a no b []) : a = s.size := by cases h; assumption
theorem byte_ne (s : ByteArray) (j : Nat) (h : j < s.size) (c : Nat) (b : Bool) (hc : (at_ s j != c) = b) : (((s[j]'h).toNat : Int) != (c : Int)) = b := by
  rw [get_at s j h, ← hc]
  cases hh : at_ s j != c
  · simp at hh ⊢; omega
  · simp at hh ⊢; omega

set_option maxHeartbeats 1000000 in
theorem LawTells_big (s : ByteArray) (w : World) (hbig : 16777216 < s.size) : Calls Tryd.prog 4 #[.string s] w fun e w' => e = .returned (.bool true) ∧ Below w.heap.size w w' := by
  go_enter Tryd.func4, Tryd.ntmps4
  go_wp2
  go_ret
  exact ⟨rfl, Below.refl _ _⟩
set_option maxHeartbeats 1000000 in
theorem LawTells_wrong (s : ByteArray) (w : World) (hbig : s.size ≤ 16777216) (hE : ET w) (hc : (all s).2.code ≠ 0) : Calls Tryd.prog 4 #[.string s] w fun e w' => e = .returned (.bool true) ∧ Below w.heap.size w w' := by
  have HE := Sd.mk hE
  have H2 := Sd.mk (lexAll_any s w (by omega))
  have HC := Sd.mk hc
  clear hE hc
  go_enter Tryd.func4, Tryd.ntmps4
  go_wp2_with fail
  refine H2.out.mono ?_
  rintro e w1 ⟨lv, ev, rfl, hev, hown, hb1⟩
  rw [if_neg HC.out] at hown
  obtain ⟨A, cap, rfl⟩ := own_slice hown
  rcases hev with ⟨h, _⟩ | ⟨_, F, rfl, _, _⟩
  · exact absurd h HC.out
  · have HB1 := Sd.mk hb1
    clear hown hb1
    go_wp2_with fail
    refine (awake_any w1 (HE.out.move HB1.out)).mono ?_
    rintro e w2 ⟨rfl, hb2⟩
    have HB2 := Sd.mk (HB1.out.trans (hb2.mono HB1.out.size))
    clear hb2
    go_wp2
    go_ret
    exact ⟨rfl, HB2.out⟩
set_option maxHeartbeats 8000000 in
set_option maxRecDepth 100000 in
theorem LawTells_ok (s : ByteArray) (w : World) (hbig : s.size ≤ 16777216) (hE : ET w) (hc : (all s).2.code = 0) : Calls Tryd.prog 4 #[.string s] w fun e w' => e = .returned (.bool true) ∧ Below w.heap.size w w' := by
  have HE := Sd.mk hE
  have H2 := Sd.mk (lexAll_any s w (by omega))
  have HT := Sd.mk (all_tells s hc)
  have hlen := all_len s
  have HC := Sd.mk hc
  obtain ⟨T, hT⟩ : ∃ T, (all s).1 = T := ⟨_, rfl⟩
  rw [hT] at HT hlen
  have HTT := Sd.mk hT
  clear hE hc hT
  go_enter Tryd.func4, Tryd.ntmps4
  go_wp2_with fail
  refine H2.out.mono ?_
  rintro e w1 ⟨lv, ev, rfl, hev, hown, hb1⟩
  rw [if_pos HC.out, HTT.out] at hown
  obtain ⟨A, cap, rfl⟩ := own_slice hown
  rcases hev with ⟨_, rfl⟩ | ⟨h, _⟩
  rotate_left
  · exact absurd HC.out h
  · have HB1 := Sd.mk hb1
    have HO := Sd.mk hown
    clear hown hb1
    go_wp2
    go_loop [5, 6, 7, 8] (fun at_ ln bg i => ∃ a no b m : Nat, m ≤ T.length ∧ a ≤ s.size ∧ b ≤ a ∧ no ≤ m + 1 ∧ at_ = .int .i64 a ∧ ln = .int .i64 no ∧ bg = .int .i64 b ∧ i = .int .i64 m ∧ Sd (Tells s a no b (T.drop m))) (fun _ _ _ i => T.length - (intOf i).toNat)
    case atStart => exact ⟨0, 1, 0, 0, by omega, by omega, by omega, by omega, rfl, rfl, rfl, rfl, ⟨HT.out⟩⟩
    case round =>
      obtain ⟨a, no, b, m, hm, ha, hba, hno, rfl, rfl, rfl, rfl, HTl⟩ := hrel
      by_cases hlt : m < T.length
      · have hcons : Tells s a no b (T[m] :: T.drop (m + 1)) := by have := HTl.out; rwa [List.drop_eq_getElem_cons hlt] at this
        rcases own_cells HO.out with ⟨_, h⟩ | ⟨g, cap', hv, _, _, _, _, hcell⟩
        · rw [h] at hlt; simp at hlt
        · obtain rfl : A = some ⟨g, 0, none⟩ := by simp at hv; exact hv.1
          obtain ⟨a0, a1, a2, a3, a4⟩ := hcell m hlt
          obtain ⟨k, hk⟩ : ∃ k, T[m] = k := ⟨_, rfl⟩
          rw [hk] at hcons a0 a1 a2 a3 a4
          clear hcell hv hk HTl
          obtain ⟨p, hap, hcol, hline, hgap, hsz, htext, hor⟩ := tells_cons hcons
          have hcol1 : (b : Int) + k.col ≤ p + 1 := by omega
          have hcol2 : (p : Int) + 1 ≤ b + k.col := by omega
          obtain ⟨n, hn⟩ : ∃ n, k.text.size = n := ⟨_, rfl⟩
          rw [hn] at hsz htext hor
          rw [← htext] at a1
          rw [hline] at a3
          have HCol := Sd.mk hcol
          have HG := Sd.mk hgap
          clear hcons hcol hline hgap htext hn
          rcases hor with ⟨hkd, hbare, hnext⟩ | ⟨hkd, hnext⟩
          · have ekd : ((k.kind : Int) == 4) = false := by simp; omega
            have HBr := Sd.mk hbare
            have HNx := Sd.mk hnext
            clear hkd hbare hnext
            go_wp2
            go_loop [5, 9] (fun at_ rem => ∃ j : Nat, a ≤ j ∧ j ≤ p ∧ at_ = .int .i64 j ∧ rem = .bool false) (fun at_ _ => s.size - (intOf at_).toNat)
            case atStart => exact ⟨a, by omega, by omega, rfl, rfl⟩
            case round =>
              obtain ⟨j, hj1, hj2, rfl, rfl⟩ := hrel
              by_cases hjp : j < p
              · have hjs : j < s.size := by omega
                have hor := (blk_iff _).1 (HBr.out j hj1 hjp)
                rcases hor with h1 | h1 | h1
                · have e35 : (((s[j]'hjs).toNat : Int) == 35) = false := byte_test s j hjs 35 false (by rw [h1]; rfl)
                  have e10 : (((s[j]'hjs).toNat : Int) == 10) = false := byte_test s j hjs 10 false (by rw [h1]; rfl)
                  have e32 : (((s[j]'hjs).toNat : Int) != 32) = false := byte_ne s j hjs 32 false (by rw [h1]; rfl)
                  clear h1
                  go_wp2
                  go_round
                  case rel => exact ⟨j + 1, by omega, by omega, by go_num, rfl⟩
                  case measure => simp [intOf]; omega
                · have e35 : (((s[j]'hjs).toNat : Int) == 35) = false := byte_test s j hjs 35 false (by rw [h1]; rfl)
                  have e10 : (((s[j]'hjs).toNat : Int) == 10) = false := byte_test s j hjs 10 false (by rw [h1]; rfl)
                  have e32 : (((s[j]'hjs).toNat : Int) != 32) = true := byte_ne s j hjs 32 true (by rw [h1]; rfl)
                  have e9 : (((s[j]'hjs).toNat : Int) != 9) = false := byte_ne s j hjs 9 false (by rw [h1]; rfl)
                  clear h1
                  go_wp2
                  go_round
                  case rel => exact ⟨j + 1, by omega, by omega, by go_num, rfl⟩
                  case measure => simp [intOf]; omega
                · have e35 : (((s[j]'hjs).toNat : Int) == 35) = false := byte_test s j hjs 35 false (by rw [h1]; rfl)
                  have e10 : (((s[j]'hjs).toNat : Int) == 10) = false := byte_test s j hjs 10 false (by rw [h1]; rfl)
                  have e32 : (((s[j]'hjs).toNat : Int) != 32) = true := byte_ne s j hjs 32 true (by rw [h1]; rfl)
                  have e9 : (((s[j]'hjs).toNat : Int) != 9) = true := byte_ne s j hjs 9 true (by rw [h1]; rfl)
                  have e13 : (((s[j]'hjs).toNat : Int) != 13) = false := byte_ne s j hjs 13 false (by rw [h1]; rfl)
                  clear h1
                  go_wp2
                  go_round
                  case rel => exact ⟨j + 1, by omega, by omega, by go_num, rfl⟩
                  case measure => simp [intOf]; omega
              · obtain rfl : j = p := by omega
                have ecol : ((j : Int) - b != (k.col : Int) - 1) = false := by simp; omega
                have hz : (s.extract j (j + n)).size = n := by rw [ByteArray.size_extract]; omega
                have hd : decide ((j : Int) < (b : Int) + k.col - 1) = false := by simp; omega
                clear hjp hj2
                rcases Nat.lt_or_ge j s.size with hjs | hjs
                · go_wp2
                  go_round
                  case rel => exact ⟨j + n, no, b, m + 1, by omega, by omega, by omega, by omega, by go_num, rfl, rfl, by go_num, HNx⟩
                  case measure => simp [intOf]; omega
                · go_wp2
                  go_round
                  case rel => exact ⟨j + n, no, b, m + 1, by omega, by omega, by omega, by omega, by go_num, rfl, rfl, by go_num, HNx⟩
                  case measure => simp [intOf]; omega
          · have ekd : ((k.kind : Int) == 4) = true := by simp; omega
            have HNx := Sd.mk hnext
            clear hkd hnext
            go_wp2
            go_loop [5, 9] (fun at_ rem => ∃ j : Nat, a ≤ j ∧ j ≤ p ∧ at_ = .int .i64 j ∧ rem = .bool (shp s a j)) (fun at_ _ => s.size - (intOf at_).toNat)
            case atStart => exact ⟨a, by omega, by omega, rfl, by rw [shp_zero]⟩
            case round =>
              obtain ⟨j, hj1, hj2, rfl, rfl⟩ := hrel
              by_cases hjp : j < p
              · have hjs : j < s.size := by omega
                have hg := HG.out j hj1 hjp
                have HSS := Sd.mk (shp_succ s a j hj1)
                have e10 : (((s[j]'hjs).toNat : Int) == 10) = false := byte_test s j hjs 10 false (by simpa using hg.1)
                cases hsh : shp s a j
                · rw [hsh] at HSS
                  by_cases h35 : at_ s j = 35
                  · have e35 : (((s[j]'hjs).toNat : Int) == 35) = true := byte_test s j hjs 35 true (by rw [h35]; rfl)
                    have HREM : Sd (shp s a (j + 1) = true) := ⟨by rw [HSS.out, h35]; rfl⟩
                    clear hg hsh h35
                    go_wp2
                    go_round
                    case rel => exact ⟨j + 1, by omega, by omega, by go_num, by rw [HREM.out]⟩
                    case measure => simp [intOf]; omega
                  · have HREM : Sd (shp s a (j + 1) = false) := ⟨by rw [HSS.out]; simpa using h35⟩
                    have hor := (blk_iff _).1 (hg.2.resolve_right (fun h => by have := (shp_iff s a (j + 1)).2 h; rw [HREM.out] at this; cases this))
                    clear hg hsh h35 e10
                    rcases hor with h1 | h1 | h1
                    · have e35 : (((s[j]'hjs).toNat : Int) == 35) = false := byte_test s j hjs 35 false (by rw [h1]; rfl)
                      have e10 : (((s[j]'hjs).toNat : Int) == 10) = false := byte_test s j hjs 10 false (by rw [h1]; rfl)
                      have e32 : (((s[j]'hjs).toNat : Int) != 32) = false := byte_ne s j hjs 32 false (by rw [h1]; rfl)
                      clear h1
                      go_wp2
                      go_round
                      case rel => exact ⟨j + 1, by omega, by omega, by go_num, by rw [HREM.out]⟩
                      case measure => simp [intOf]; omega
                    · have e35 : (((s[j]'hjs).toNat : Int) == 35) = false := byte_test s j hjs 35 false (by rw [h1]; rfl)
                      have e10 : (((s[j]'hjs).toNat : Int) == 10) = false := byte_test s j hjs 10 false (by rw [h1]; rfl)
                      have e32 : (((s[j]'hjs).toNat : Int) != 32) = true := byte_ne s j hjs 32 true (by rw [h1]; rfl)
                      have e9 : (((s[j]'hjs).toNat : Int) != 9) = false := byte_ne s j hjs 9 false (by rw [h1]; rfl)
                      clear h1
                      go_wp2
                      go_round
                      case rel => exact ⟨j + 1, by omega, by omega, by go_num, by rw [HREM.out]⟩
                      case measure => simp [intOf]; omega
                    · have e35 : (((s[j]'hjs).toNat : Int) == 35) = false := byte_test s j hjs 35 false (by rw [h1]; rfl)
                      have e10 : (((s[j]'hjs).toNat : Int) == 10) = false := byte_test s j hjs 10 false (by rw [h1]; rfl)
                      have e32 : (((s[j]'hjs).toNat : Int) != 32) = true := byte_ne s j hjs 32 true (by rw [h1]; rfl)
                      have e9 : (((s[j]'hjs).toNat : Int) != 9) = true := byte_ne s j hjs 9 true (by rw [h1]; rfl)
                      have e13 : (((s[j]'hjs).toNat : Int) != 13) = false := byte_ne s j hjs 13 false (by rw [h1]; rfl)
                      clear h1
                      go_wp2
                      go_round
                      case rel => exact ⟨j + 1, by omega, by omega, by go_num, by rw [HREM.out]⟩
                      case measure => simp [intOf]; omega
                · rw [hsh] at HSS
                  have HREM : Sd (shp s a (j + 1) = true) := ⟨by rw [HSS.out]; rfl⟩
                  clear hg hsh
                  go_wp2
                  go_round
                  case rel => exact ⟨j + 1, by omega, by omega, by go_num, by rw [HREM.out]⟩
                  case measure => simp [intOf]; omega
              · obtain rfl : j = p := by omega
                have ecol : ((j : Int) - b != (k.col : Int) - 1) = false := by simp; omega
                have hz : (s.extract j (j + n)).size = n := by rw [ByteArray.size_extract]; omega
                have hd : decide ((j : Int) < (b : Int) + k.col - 1) = false := by simp; omega
                clear hjp hj2
                generalize shp s a j = rm
                rcases Nat.lt_or_ge j s.size with hjs | hjs
                · go_wp2
                  go_round
                  case rel => exact ⟨j + n, no + 1, j + n, m + 1, by omega, by omega, by omega, by omega, by go_num, by go_num, by go_num, by go_num, HNx⟩
                  case measure => simp [intOf]; omega
                · go_wp2
                  go_round
                  case rel => exact ⟨j + n, no + 1, j + n, m + 1, by omega, by omega, by omega, by omega, by go_num, by go_num, by go_num, by go_num, HNx⟩
                  case measure => simp [intOf]; omega
      · have hml : m = T.length := by omega
        have hend : a = s.size := by
          have := HTl.out
          rw [hml, List.drop_length] at this
          exact tells_nil this
        have ea : ((a : Int) == s.size) = true := by simp; omega
        have HNl := Sd.mk hlt
        have hle : (T.length : Int) ≤ m := by omega
        clear hml hend hlt
        go_wp2_with fail
        refine (awake_any w1 (HE.out.move HB1.out)).mono ?_
        rintro e w2 ⟨rfl, hb2⟩
        have HB2 := Sd.mk (HB1.out.trans (hb2.mono HB1.out.size))
        clear hb2
        go_wp2
        go_ret
        exact ⟨rfl, HB2.out⟩
theorem LawTells_any (s : ByteArray) (_hs : s.size ≤ 140737488351232) (w : World) (hE : ET w) : Calls Tryd.prog 4 #[.string s] w fun e w' => e = .returned (.bool true) ∧ Below w.heap.size w w' := by
  by_cases hbig : 16777216 < s.size
  · exact LawTells_big s w hbig
  · by_cases hc : (all s).2.code = 0
    · exact LawTells_ok s w (by omega) hE hc
    · exact LawTells_wrong s w (by omega) hE hc
end Go.Proofs.YtghlfpeifdikkaaDoor
