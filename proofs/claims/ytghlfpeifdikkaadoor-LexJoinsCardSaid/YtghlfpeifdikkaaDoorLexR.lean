/- The reference's rows of letters and digits, and a number's value. -/
import Derived.Test.YtghlfpeifdikkaaDoorLexF
namespace Go.Proofs.YtghlfpeifdikkaaDoor
open Go.RowKit Go.Proofs.YtghlfpeifdikkaaDoor.Lex

/-- how far a row of one sort goes -/
def rowN (s : ByteArray) (k i : Nat) : Nat := skip (fun j => kd (at_ s j) == k) s.size i
theorem rowN_go {s : ByteArray} {k i : Nat} (h : i < s.size) (hp : (kd (at_ s i) == k) = true) : rowN s k i = rowN s k (i + 1) := skip_go (p := fun j => kd (at_ s j) == k) h hp
theorem rowN_stop {s : ByteArray} {k i : Nat} (h : ¬ (i < s.size ∧ (kd (at_ s i) == k) = true)) : rowN s k i = i := skip_stop (p := fun j => kd (at_ s j) == k) h
theorem get_at (s : ByteArray) (k : Nat) (h : k < s.size) : (s[k]'h).toNat = at_ s k := by
  have := at_get s k h; exact_mod_cast this

set_option maxHeartbeats 1000000 in
theorem letters_any (s : ByteArray) (i : Nat) (w : World) (hs : s.size ≤ 140737488351232) (hi : i ≤ s.size) :
    Calls Tryd.prog 28 #[.string s, .int .i64 i] w fun e w' => e = .returned (.int .i64 ((rowN s 1 i - i : Nat) : Int)) ∧ w = w' := by
  go_enter Tryd.func28, Tryd.ntmps28
  go_wp2
  go_loop [5] (fun n => ∃ k : Nat, i + k ≤ s.size ∧ n = .int .i64 k ∧ Sd (rowN s 1 i = rowN s 1 (i + k))) (fun n => s.size - (intOf n).toNat)
  case atStart => exact ⟨0, by omega, rfl, ⟨rfl⟩⟩
  case round =>
    obtain ⟨k, hk, rfl, hr⟩ := hrel
    by_cases hlt : i + k < s.size
    · have HC := Sd.mk (letter_any (at_ s (i + k)))
      cases hp : (kd (at_ s (i + k)) == 1)
      all_goals
        rw [hp] at HC
        have HP := Sd.mk hp
        clear hp
        go_wp2_with fail
        rw [get_at s (i + k) hlt]
        refine (HC.out _).mono ?_
        rintro e w1 ⟨rfl, rfl⟩
        go_wp2
      · go_ret
        refine ⟨ret_int ?_, rfl⟩
        rw [hr.out, rowN_stop (by rw [HP.out]; simp)]
        congr 1; omega
      · go_round
        case rel => exact ⟨k + 1, by omega, by go_num, ⟨by rw [hr.out, rowN_go hlt HP.out]; rfl⟩⟩
        case measure => simp [intOf]; omega
    · go_wp2
      go_ret
      have e : k = s.size - i := by omega
      refine ⟨ret_int ?_, rfl⟩
      rw [hr.out, rowN_stop (by omega)]
      congr 1; omega
set_option maxHeartbeats 1000000 in
theorem digits_any (s : ByteArray) (i : Nat) (w : World) (hs : s.size ≤ 140737488351232) (hi : i ≤ s.size) :
    Calls Tryd.prog 30 #[.string s, .int .i64 i] w fun e w' => e = .returned (.int .i64 ((rowN s 2 i - i : Nat) : Int)) ∧ w = w' := by
  go_enter Tryd.func30, Tryd.ntmps30
  go_wp2
  go_loop [5] (fun n => ∃ k : Nat, i + k ≤ s.size ∧ n = .int .i64 k ∧ Sd (rowN s 2 i = rowN s 2 (i + k))) (fun n => s.size - (intOf n).toNat)
  case atStart => exact ⟨0, by omega, rfl, ⟨rfl⟩⟩
  case round =>
    obtain ⟨k, hk, rfl, hr⟩ := hrel
    by_cases hlt : i + k < s.size
    · have HC := Sd.mk (digit_any (at_ s (i + k)))
      cases hp : (kd (at_ s (i + k)) == 2)
      all_goals
        rw [hp] at HC
        have HP := Sd.mk hp
        clear hp
        go_wp2_with fail
        rw [get_at s (i + k) hlt]
        refine (HC.out _).mono ?_
        rintro e w1 ⟨rfl, rfl⟩
        go_wp2
      · go_ret
        refine ⟨ret_int ?_, rfl⟩
        rw [hr.out, rowN_stop (by rw [HP.out]; simp)]
        congr 1; omega
      · go_round
        case rel => exact ⟨k + 1, by omega, by go_num, ⟨by rw [hr.out, rowN_go hlt HP.out]; rfl⟩⟩
        case measure => simp [intOf]; omega
    · go_wp2
      go_ret
      have e : k = s.size - i := by omega
      refine ⟨ret_int ?_, rfl⟩
      rw [hr.out, rowN_stop (by omega)]
      congr 1; omega

/-- the value of a row of digits, as far as it may be; none: it is too great -/
def numTo (s : ByteArray) : Nat → Nat
  | 0 => 0
  | k + 1 => 10 * numTo s k + (at_ s k - 48)
/-- no beginning of k digits is too great -/
def fits (s : ByteArray) : Nat → Bool
  | 0 => true
  | k + 1 => fits s k && decide (numTo s (k + 1) ≤ 4294967295)
theorem fits_le {s : ByteArray} {k : Nat} (h : fits s k = true) : numTo s k ≤ 4294967295 := by
  cases k with
  | zero => simp [numTo]
  | succ k => simp [fits] at h; exact h.2
def numV (s : ByteArray) : Nat × Bool := if 1 < s.size ∧ at_ s 0 = 48 then (0, false) else if fits s s.size then (numTo s s.size, true) else (0, false)
theorem ret2 {a b : Int} {c d : Bool} (h : a = b) (h2 : c = d) : Ending.returned (.tuple #[.int .u32 a, .bool c]) = .returned (.tuple #[.int .u32 b, .bool d]) := by rw [h, h2]
theorem fits_mono {s : ByteArray} {n : Nat} (h : fits s n = true) : ∀ k, k ≤ n → fits s k = true := by
  induction n with
  | zero => intro k hk; have : k = 0 := by omega
            rw [this]; rfl
  | succ n ih =>
    intro k hk
    by_cases e : k = n + 1
    · rw [e]; exact h
    · simp only [fits, Bool.and_eq_true] at h
      exact ih h.1 k (by omega)
theorem numTo_lt {s : ByteArray} {k : Nat} (h : fits s k = true) (hk : at_ s k ≤ 57) : numTo s (k + 1) < 42949672960 := by
  have := fits_le h
  simp only [numTo]; omega
set_option maxHeartbeats 2000000 in
theorem number_any (s : ByteArray) (w : World) (hs : s.size ≤ 140737488351232) (hd : ∀ j, j < s.size → 48 ≤ at_ s j ∧ at_ s j ≤ 57) :
    Calls Tryd.prog 31 #[.string s] w fun e w' => e = .returned (.tuple #[.int .u32 ((numV s).1 : Nat), .bool (numV s).2]) ∧ w = w' := by
  have HD := Sd.mk hd
  clear hd
  by_cases h1 : 1 < s.size
  · have g0 := get_at s 0 (by omega)
    by_cases h0 : at_ s 0 = 48
    · have e0 : (((s[0]'(by omega)).toNat : Int) == 48) = true := by rw [g0, h0]; rfl
      have HV : Sd (numV s = (0, false)) := ⟨by unfold numV; rw [if_pos ⟨h1, h0⟩]⟩
      clear g0 h0
      go_enter Tryd.func31, Tryd.ntmps31
      go_wp2
      go_ret2
      exact ⟨by rw [HV.out]; rfl, rfl⟩
    · have e0 : (((s[0]'(by omega)).toNat : Int) == 48) = false := by rw [g0]; simp; omega
      have HV : Sd (numV s = if fits s s.size then (numTo s s.size, true) else (0, false)) := ⟨by unfold numV; rw [if_neg (fun h => h0 h.2)]⟩
      clear g0 h0
      go_enter Tryd.func31, Tryd.ntmps31
      go_wp2
      clear e0
      go_loop [4, 5] (fun v n => ∃ k : Nat, k ≤ s.size ∧ n = .int .i64 k ∧ v = .int .u64 (numTo s k : Nat) ∧ Sd (fits s k = true)) (fun _ n => s.size - (intOf n).toNat)
      case atStart => exact ⟨0, by omega, rfl, rfl, ⟨rfl⟩⟩
      case round =>
        obtain ⟨k, hk, rfl, rfl, hr⟩ := hrel
        have hb := fits_le hr.out
        by_cases hlt : k < s.size
        · have hd1 : 48 ≤ ((s[k]'hlt).toNat : Int) := by have := (HD.out k hlt).1; rw [get_at s k hlt]; omega
          have hd2 : ((s[k]'hlt).toNat : Int) ≤ 57 := by have := (HD.out k hlt).2; rw [get_at s k hlt]; omega
          have HN : Sd ((numTo s (k + 1) : Nat) = 10 * (numTo s k : Int) + (((s[k]'hlt).toNat : Int) - 48)) := ⟨by
            have := (HD.out k hlt).1
            rw [get_at s k hlt]; simp only [numTo]; omega⟩
          by_cases hbig : 10 * (numTo s k : Int) + (((s[k]'hlt).toNat : Int) - 48) ≤ 4294967295
          · go_wp2
            go_round
            case rel => exact ⟨k + 1, by omega, by go_num, by rw [HN.out], ⟨by simp only [fits, Bool.and_eq_true, decide_eq_true_eq]; exact ⟨hr.out, by have := HN.out; omega⟩⟩⟩
            case measure => simp [intOf]; omega
          · have hbig2 : 4294967295 < 10 * (numTo s k : Int) + (((s[k]'hlt).toNat : Int) - 48) := by omega
            clear hbig
            go_wp2
            go_ret2
            refine ⟨?_, rfl⟩
            rw [HV.out, if_neg (fun h => ?_)]
            · rfl
            · have := fits_mono h (k + 1) (by omega)
              have := fits_le this
              have := HN.out
              omega
        · have e : k = s.size := by omega
          have HE := Sd.mk e
          clear e
          go_wp2
          go_ret2
          refine ⟨ret2 ?_ ?_, rfl⟩
          · rw [HV.out, ← HE.out, if_pos hr.out]
          · rw [HV.out, ← HE.out, if_pos hr.out]
  · have HV : Sd (numV s = if fits s s.size then (numTo s s.size, true) else (0, false)) := ⟨by unfold numV; rw [if_neg (fun h => h1 h.1)]⟩
    go_enter Tryd.func31, Tryd.ntmps31
    go_wp2
    go_loop [4, 5] (fun v n => ∃ k : Nat, k ≤ s.size ∧ n = .int .i64 k ∧ v = .int .u64 (numTo s k : Nat) ∧ Sd (fits s k = true)) (fun _ n => s.size - (intOf n).toNat)
    case atStart => exact ⟨0, by omega, rfl, rfl, ⟨rfl⟩⟩
    case round =>
      obtain ⟨k, hk, rfl, rfl, hr⟩ := hrel
      have hb := fits_le hr.out
      by_cases hlt : k < s.size
      · have hd1 : 48 ≤ ((s[k]'hlt).toNat : Int) := by have := (HD.out k hlt).1; rw [get_at s k hlt]; omega
        have hd2 : ((s[k]'hlt).toNat : Int) ≤ 57 := by have := (HD.out k hlt).2; rw [get_at s k hlt]; omega
        have HN : Sd ((numTo s (k + 1) : Nat) = 10 * (numTo s k : Int) + (((s[k]'hlt).toNat : Int) - 48)) := ⟨by
          have := (HD.out k hlt).1
          rw [get_at s k hlt]; simp only [numTo]; omega⟩
        by_cases hbig : 10 * (numTo s k : Int) + (((s[k]'hlt).toNat : Int) - 48) ≤ 4294967295
        · go_wp2
          go_round
          case rel => exact ⟨k + 1, by omega, by go_num, by rw [HN.out], ⟨by simp only [fits, Bool.and_eq_true, decide_eq_true_eq]; exact ⟨hr.out, by have := HN.out; omega⟩⟩⟩
          case measure => simp [intOf]; omega
        · have hbig2 : 4294967295 < 10 * (numTo s k : Int) + (((s[k]'hlt).toNat : Int) - 48) := by omega
          clear hbig
          go_wp2
          go_ret2
          refine ⟨?_, rfl⟩
          rw [HV.out, if_neg (fun h => ?_)]
          · rfl
          · have := fits_mono h (k + 1) (by omega)
            have := fits_le this
            have := HN.out
            omega
      · have e : k = s.size := by omega
        have HE := Sd.mk e
        clear e
        go_wp2
        go_ret2
        refine ⟨ret2 ?_ ?_, rfl⟩
        · rw [HV.out, ← HE.out, if_pos hr.out]
        · rw [HV.out, ← HE.out, if_pos hr.out]

end Go.Proofs.YtghlfpeifdikkaaDoor
