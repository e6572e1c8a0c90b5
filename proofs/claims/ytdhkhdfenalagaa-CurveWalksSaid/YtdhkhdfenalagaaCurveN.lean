/- The statement of the curve's steps: its walk. -/
import Derived.Test.YtdhkhdfenalagaaCurveM
namespace Go.Proofs.Ytdhkhdfenalagaa
open Go.RowKit Go.Proofs.Ytdhkhdfenalagaa.Fl Go.Proofs.Ytdhkhdfenalagaa.Hil

theorem atC_cases (n p : Int) : (∃ c, atC n p = ((0, 0), c) ∧ (c = 130 ∨ c = 131)) ∨
    (1 ≤ n ∧ n ≤ 16 ∧ 0 ≤ p ∧ p < 4294967296 ∧ p < ((4 ^ n.toNat : Nat) : Int) ∧ atC n p = (hat n.toNat p.toNat, 0)) := by
  unfold atC
  split
  · exact .inl ⟨130, rfl, .inl rfl⟩
  · split
    · exact .inl ⟨131, rfl, .inr rfl⟩
    · have := lim4 n (by omega)
      refine .inr ⟨by omega, by omega, by omega, by omega, by omega, rfl⟩
theorem plC_hat (n p : Int) (h0 : 1 ≤ n) (h1 : n ≤ 16) (hp : 0 ≤ p) (h : p < ((4 ^ n.toNat : Nat) : Int)) : plC n (fl (hat n.toNat p.toNat).1) (fl (hat n.toNat p.toNat).2) = (p, 0) := by
  obtain ⟨b1, b2, b3, b4⟩ := hat_bd n.toNat p.toNat (by omega)
  obtain ⟨s1, s2⟩ := side_le n h0 h1
  have e2 : (2 : Int) ^ n.toNat = side n := rfl
  have p1 := part_of_int (L := side n) (isInt_fl (hat n.toNat p.toNat).1 (by omega)) b1 (by omega) (by omega)
  have p2 := part_of_int (L := side n) (isInt_fl (hat n.toNat p.toNat).2 (by omega)) b3 (by omega) (by omega)
  unfold plC inSq
  rw [if_neg (by omega), p1.1, p2.1, p1.2, p2.2, hpl_hat n.toNat p.toNat (by omega)]
  simp; omega
theorem atC_next (n p : Int) (h0 : 1 ≤ n) (h1 : n ≤ 16) (hp : 0 ≤ p) (h : p < ((4 ^ n.toNat : Nat) : Int)) :
    (atC n (p + 1) = ((0, 0), 131) ∧ hat n.toNat p.toNat = (2 ^ n.toNat - 1, 0)) ∨ (atC n (p + 1) = (hat n.toNat (p + 1).toNat, 0) ∧ Near (hat n.toNat p.toNat) (hat n.toNat (p + 1).toNat)) := by
  by_cases hl : p + 1 < ((4 ^ n.toNat : Nat) : Int)
  · refine .inr ⟨?_, ?_⟩
    · unfold atC; rw [if_neg (by omega), if_neg (by omega)]
    · have := hat_near n.toNat p.toNat (by omega)
      rw [show (p + 1).toNat = p.toNat + 1 from by omega]
      exact this
  · refine .inl ⟨?_, ?_⟩
    · unfold atC; rw [if_neg (by omega), if_pos (by omega)]
    · have := hat_last n.toNat
      rw [show p.toNat = 4 ^ n.toNat - 1 from by omega]
      exact this
theorem atC_zero (n : Int) (h0 : 1 ≤ n) (h1 : n ≤ 16) : atC n 0 = ((0, 0), 0) := by
  have := pow4_pos n.toNat
  unfold atC
  rw [if_neg (by omega), if_neg (by omega)]
  simp [hat_first]

set_option maxHeartbeats 1000000 in
set_option maxRecDepth 100000 in
theorem LawSteps_bad (n p : Int) (c : Int) (h : atC n p = ((0, 0), c)) (hc : c = 130 ∨ c = 131) (w : World) :
    Calls Try.prog 6 #[.int .i64 n, .int .i64 p] w fun e w' => e = .returned (.bool true) ∧ Below w.heap.size w w' := by
  have C1 := Sd.mk (At_any n p)
  rw [h] at C1
  simp only [fl0] at C1
  rcases hc with rfl | rfl
  all_goals
    go_enter Try.func6, Try.ntmps6
    go_wp2_with fail
    refine (C1.out _).mono ?_
    rintro e w1 ⟨rfl, hb1⟩
    go_wp2_with fail
    refine (awake13 _).mono ?_
    rintro e w2 ⟨rfl, hb2⟩
    go_wp2
    go_ret
    exact ⟨rfl, hb1.trans (hb2.mono hb1.size)⟩

set_option maxHeartbeats 1000000 in
set_option maxRecDepth 100000 in
theorem LawSteps_last (n p : Int) (h0 : 1 ≤ n) (h1 : n ≤ 16) (hp : 0 ≤ p) (hlt : p < 4294967296) (h4 : p < ((4 ^ n.toNat : Nat) : Int)) (ha : atC n p = (hat n.toNat p.toNat, 0)) (hx : atC n (p + 1) = ((0, 0), 131)) (hl : hat n.toNat p.toNat = (2 ^ n.toNat - 1, 0)) (w : World) :
    Calls Try.prog 6 #[.int .i64 n, .int .i64 p] w fun e w' => e = .returned (.bool true) ∧ Below w.heap.size w w' := by
  have C1 := Sd.mk (At_any n p)
  have C2 := Sd.mk (Place_any n (fl (hat n.toNat p.toNat).1) (fl (hat n.toNat p.toNat).2))
  have C3 := Sd.mk (At_any n (p + 1))
  rw [plC_hat n p h0 h1 hp h4] at C2
  rw [ha] at C1
  rw [hx] at C3
  rw [hl] at C1 C2
  simp only [fl0] at C1 C2 C3
  obtain ⟨b1, b2, b3⟩ := lim_bd n h0 h1
  have e1 := eq_int (isInt_fl (2 ^ n.toNat - 1) (by omega)) (isInt_fl (2 ^ n.toNat - 1) (by omega))
  have e2 : floatOfInt .f64 (2 ^ n.toNat - 1) = fl (2 ^ n.toNat - 1) := floatOfInt_fl _ (by omega)
  clear h4 ha hx hl
  go_enter Try.func6, Try.ntmps6
  go_wp2_with fail
  refine (C1.out _).mono ?_
  rintro e w1 ⟨rfl, hb1⟩
  go_wp2_with fail
  refine (C2.out _).mono ?_
  rintro e w2 ⟨rfl, rfl⟩
  go_wp2_with fail
  refine (C3.out _).mono ?_
  rintro e w2 ⟨rfl, hb2⟩
  go_wp2_with fail
  refine (awake13 _).mono ?_
  rintro e w3 ⟨rfl, hb3⟩
  go_wp2
  go_ret
  exact ⟨rfl, (hb1.trans (hb2.mono hb1.size)).trans (hb3.mono (Nat.le_trans hb1.size hb2.size))⟩

def qt (k : Nat) : Nat × Nat := rot (4607182418800017408, 0) k
set_option maxHeartbeats 1000000 in
set_option maxRecDepth 100000 in
theorem LawSteps_next (n p : Int) (h0 : 1 ≤ n) (h1 : n ≤ 16) (hp : 0 ≤ p) (hlt : p < 4294967296) (h4 : p < ((4 ^ n.toNat : Nat) : Int)) (ha : atC n p = (hat n.toNat p.toNat, 0)) (hx : atC n (p + 1) = (hat n.toNat (p + 1).toNat, 0))
    (a b j : Nat) (hj : j < 4) (hsub : ∀ (t : TypeId) (w : World), (binOp .sub t (.complex .f64 (fl (hat n.toNat (p + 1).toNat).1) (fl (hat n.toNat (p + 1).toNat).2)) (.complex .f64 (fl (hat n.toNat p.toNat).1) (fl (hat n.toNat p.toNat).2))).run Try.prog w = .ok (.complex .f64 a b) w)
    (hq : ∀ k, k < 4 → (FloatKind.f64.format.order a (qt k).1 == some .eq && FloatKind.f64.format.order b (qt k).2 == some .eq) = decide (k = j)) (w : World) :
    Calls Try.prog 6 #[.int .i64 n, .int .i64 p] w fun e w' => e = .returned (.bool true) ∧ Below w.heap.size w w' := by
  have C1 := Sd.mk (At_any n p)
  have C2 := Sd.mk (Place_any n (fl (hat n.toNat p.toNat).1) (fl (hat n.toNat p.toNat).2))
  have C3 := Sd.mk (At_any n (p + 1))
  have C4 := Sd.mk (At_any n 0)
  have HT : Sd (∀ (k : Nat) (w : World), k < 4 → Calls Try.prog 16 #[.complex .f64 4607182418800017408 0, .int .i64 k] w fun e w' => e = .returned (.complex .f64 (qt k).1 (qt k).2) ∧ w = w') := ⟨fun k w hk => Turn_m _ _ k k (by omega) w⟩
  rw [plC_hat n p h0 h1 hp h4] at C2
  rw [ha] at C1
  rw [hx] at C3
  rw [atC_zero n h0 h1] at C4
  have HQ := Sd.mk hq
  clear h4 ha hx hq
  generalize hat n.toNat (p + 1).toNat = u at *
  generalize hat n.toNat p.toNat = v at *
  obtain ⟨x', y'⟩ := u
  obtain ⟨x, y⟩ := v
  simp only [fl0] at C1 C2 C3 C4 hsub
  go_enter Try.func6, Try.ntmps6
  go_wp2_with fail
  refine (C1.out _).mono ?_
  rintro e w1 ⟨rfl, hb1⟩
  go_wp2_with fail
  refine (C2.out _).mono ?_
  rintro e w2 ⟨rfl, rfl⟩
  go_wp2_with fail
  refine (C3.out _).mono ?_
  rintro e w2 ⟨rfl, hb2⟩
  have hbw : Below w.heap.size w w2 := hb1.trans (hb2.mono hb1.size)
  clear hb1 hb2
  go_wp2_with fail
  go_loop [12, 13] (fun o i => ∃ k : Nat, k ≤ 4 ∧ i = .int .i64 k ∧ o = .bool (decide (j < k))) (fun _ i => 4 - (intOf i).toNat)
  case atStart => exact ⟨0, by omega, rfl, by simp⟩
  case round =>
    obtain ⟨k, hk, rfl, rfl⟩ := hrel
    by_cases hlt : k < 4
    · by_cases hjk : j < k
      · have hd : decide (j < k) = true := by simpa using hjk
        rw [hd]
        go_wp2_with fail
        go_round
        case rel => exact ⟨k + 1, by omega, by go_num, by simp; omega⟩
        case measure => simp [intOf]; omega
      · have hd : decide (j < k) = false := by simpa using hjk
        rw [hd]
        go_wp2_with fail
        refine (HT.out k _ hlt).mono ?_
        rintro e w3 ⟨rfl, rfl⟩
        have hq := HQ.out k hlt
        generalize qt k = q at *
        go_wp2_with fail
        go_round
        case rel => exact ⟨k + 1, by omega, by go_num, by simp; omega⟩
        case measure => simp [intOf]; omega
    · have e : k = 4 := by omega
      subst e
      have hd : decide (j < 4) = true := by simpa using hj
      rw [hd]
      go_wp2_with fail
      refine (C4.out _).mono ?_
      rintro e w3 ⟨rfl, hb3⟩
      go_wp2_with fail
      refine (awake13 _).mono ?_
      rintro e w4 ⟨rfl, hb4⟩
      go_wp2
      go_ret
      exact ⟨rfl, (hbw.trans (hb3.mono hbw.size)).trans (hb4.mono (Nat.le_trans hbw.size hb3.size))⟩

theorem LawSteps_any (n p : Int) (w : World) :
    Calls Try.prog 6 #[.int .i64 n, .int .i64 p] w fun e w' => e = .returned (.bool true) ∧ Below w.heap.size w w' := by
  rcases atC_cases n p with ⟨c, h, hc⟩ | ⟨h0, h1, hp, hlt, h4, ha⟩
  · exact LawSteps_bad n p c h hc w
  · rcases atC_next n p h0 h1 hp h4 with ⟨hx, hl⟩ | ⟨hx, hn⟩
    · exact LawSteps_last n p h0 h1 hp hlt h4 ha hx hl w
    · have b1 := atC_bd n p
      have b2 := atC_bd n (p + 1)
      rw [ha] at b1
      rw [hx] at b2
      simp only at b1 b2
      have hs := csub_fl (hat n.toNat (p + 1).toNat).1 (hat n.toNat (p + 1).toNat).2 (hat n.toNat p.toNat).1 (hat n.toNat p.toNat).2 (by omega) (by omega) (by omega) (by omega) (by omega) (by omega)
      have m1 : fl (-1) = 13830554455654793216 := by decide
      rcases hn with ⟨e1, e2⟩ | ⟨e1, e2⟩ | ⟨e1, e2⟩ | ⟨e1, e2⟩
      · rw [e1, e2, Int.sub_self, fl1, fl0] at hs
        exact LawSteps_next n p h0 h1 hp hlt h4 ha hx _ _ 0 (by omega) (by rw [e2]; exact hs) (by decide) w
      · rw [e1, e2, Int.sub_self, m1, fl0] at hs
        exact LawSteps_next n p h0 h1 hp hlt h4 ha hx _ _ 2 (by omega) (by rw [e2]; exact hs) (by decide) w
      · rw [e2, e1, Int.sub_self, fl1, fl0] at hs
        exact LawSteps_next n p h0 h1 hp hlt h4 ha hx _ _ 1 (by omega) (by rw [e1]; exact hs) (by decide) w
      · rw [e2, e1, Int.sub_self, m1, fl0] at hs
        exact LawSteps_next n p h0 h1 hp hlt h4 ha hx _ _ 3 (by omega) (by rw [e1]; exact hs) (by decide) w

end Go.Proofs.Ytdhkhdfenalagaa
