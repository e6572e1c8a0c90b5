/- What each function of package bits, and of its reference, gives back, as functions on natural numbers; Text's two are elsewhere. -/
import Derived.Test.YtmmaciegboodlaaDoorProg
import Derived.WalkKit
import Derived.WalkSpells
import Derived.WalkLawsBesides
import Derived.Deep.QuietTactic
import Derived.BigQuiet
import Derived.Deep.Draws
import Derived.Test.YtmmaciegboodlaaDoorBitsPure2
namespace Go.Proofs.YtmmaciegboodlaaDoor
open Go.RowKit Go.Proofs.YtmmaciegboodlaaDoor.BitsPure

/-- a fact that the walk is not to use as a rule -/
structure Sd (p : Prop) : Prop where out : p

/-- the world but for what has been drawn -/
structure Drew (w w' : World) : Prop where out : ∃ n, w' = w.drewN n
theorem Drew.refl (w : World) : Drew w w := ⟨⟨0, rfl⟩⟩
theorem Drew.step {w w' : World} (h : Drew w w') (n : Nat) : Drew w (w'.drewN n) := by
  obtain ⟨m, rfl⟩ := h; exact ⟨⟨m + n, by simp [World.drewN, Nat.add_assoc]⟩⟩
theorem Drew.one {w w' : World} (h : Drew w w') : Drew w w'.drew := h.step 1

theorem ret_int {k : IntKind} {a b : Int} (h : a = b) : Ending.returned (.int k a) = .returned (.int k b) := by rw [h]
theorem ret_two {k l : IntKind} {a b c d : Int} (h : a = b) (h' : c = d) : Ending.returned (.tuple #[.int k a, .int l c]) = .returned (.tuple #[.int k b, .int l d]) := by rw [h, h']

theorem wrap_bit (a i : Nat) : wrap64 ((bit a i : Nat) : Int) = ((bit a i : Nat) : Int) := by have := bit_lt a i; unfold wrap64; omega

theorem xor_high : ∀ k : Fin 33, bits .xor .u32 IntKind.u32.max ((2 ^ (32 - k.val) - 1) % 4294967296) = 4294967296 - 2 ^ (32 - k.val) := by decide
theorem high_eq (n : Int) (h0 : 0 ≤ n) (h1 : n ≤ 32) : bits .xor .u32 IntKind.u32.max ((2 ^ (32 - n).toNat - 1) % 4294967296) = (high n.toNat : Int) := by
  have h := xor_high ⟨n.toNat, by omega⟩
  have hn : (32 - n).toNat = 32 - n.toNat := by omega
  rw [hn]
  refine h.trans ?_
  unfold high
  have hp : (2 : Nat) ^ (32 - n.toNat) ≤ 2 ^ 32 := Nat.pow_le_pow_right (by omega) (by omega)
  have hc : ((2 : Int) ^ (32 - n.toNat)) = ((2 ^ (32 - n.toNat) : Nat) : Int) := by simp
  rw [hc]
  simp only [show (2 : Nat) ^ 32 = 4294967296 from rfl] at hp
  omega

set_option maxHeartbeats 400000 in
theorem High_ok (n : Int) (h0 : 0 ≤ n) (h1 : n ≤ 32) (w : World) :
    Calls Tryd.prog 10 #[.int .i64 n] w fun e w' => e = .returned (.tuple #[.int .u32 (high n.toNat : Nat), .int .i64 0]) ∧ w = w' := by
  have H := Sd.mk (high_eq n h0 h1)
  go_enter Tryd.func10, Tryd.ntmps10
  go_wp2
  go_ret2
  exact ⟨ret_two H.out rfl, rfl⟩
set_option maxHeartbeats 400000 in
theorem High_bad (n : Int) (h : n < 0 ∨ 32 < n) (w : World) :
    Calls Tryd.prog 10 #[.int .i64 n] w fun e w' => e = .returned (.tuple #[.int .u32 0, .int .i64 1]) ∧ w = w' := by
  rcases h with h | h
  · go_enter Tryd.func10, Tryd.ntmps10
    go_wp2
    go_ret2
    exact ⟨rfl, rfl⟩
  · have h' : 0 ≤ n := by omega
    have h2 : decide (n ≤ 32) = false := by simp; omega
    go_enter Tryd.func10, Tryd.ntmps10
    go_wp2
    go_ret2
    exact ⟨rfl, rfl⟩
set_option maxHeartbeats 400000 in
theorem Keep_ok (a : Nat) (ha : a < 4294967296) (n : Int) (h0 : 0 ≤ n) (h1 : n ≤ 32) (w : World) :
    Calls Tryd.prog 13 #[.int .u32 a, .int .i64 n] w fun e w' => e = .returned (.tuple #[.int .u32 (a &&& high n.toNat : Nat), .int .i64 0]) ∧ w = w' := by
  have H := Sd.mk (bits_and a (high n.toNat) ha (high_lt _))
  go_enter Tryd.func13, Tryd.ntmps13
  go_wp2_with (go_at_call 10; refine (High_ok _ h0 h1 _).mono ?_; rintro e w' ⟨rfl, rfl⟩)
  go_ret2
  exact ⟨ret_two H.out rfl, rfl⟩
set_option maxHeartbeats 400000 in
theorem Keep_bad (a : Nat) (ha : a < 4294967296) (n : Int) (h : n < 0 ∨ 32 < n) (w : World) :
    Calls Tryd.prog 13 #[.int .u32 a, .int .i64 n] w fun e w' => e = .returned (.tuple #[.int .u32 0, .int .i64 1]) ∧ w = w' := by
  have H := Sd.mk (bits_and a 0 ha (by omega))
  go_enter Tryd.func13, Tryd.ntmps13
  go_wp2_with (go_at_call 10; refine (High_bad _ h _).mono ?_; rintro e w' ⟨rfl, rfl⟩)
  go_ret2
  exact ⟨ret_two (H.out.trans (by simp)) rfl, rfl⟩
set_option maxHeartbeats 400000 in
theorem At_ok (a : Nat) (ha : a < 4294967296) (i : Int) (h0 : 0 ≤ i) (h1 : i < 32) (w : World) :
    Calls Tryd.prog 15 #[.int .u32 a, .int .i64 i] w fun e w' => e = .returned (.tuple #[.int .i64 (bit a (31 - i.toNat) : Nat), .int .i64 0]) ∧ w = w' := by
  have hj : (31 - i).toNat = 31 - i.toNat := by omega
  have H := Sd.mk (shr_and a (31 - i.toNat) ha)
  have HJ := Sd.mk hj
  clear hj
  go_enter Tryd.func15, Tryd.ntmps15
  go_wp2
  go_ret2
  exact ⟨ret_two (by rw [HJ.out, H.out]; exact wrap_bit _ _) rfl, rfl⟩
set_option maxHeartbeats 400000 in
theorem At_bad (a : Nat) (i : Int) (h : i < 0 ∨ 32 ≤ i) (w : World) :
    Calls Tryd.prog 15 #[.int .u32 a, .int .i64 i] w fun e w' => e = .returned (.tuple #[.int .i64 0, .int .i64 1]) ∧ w = w' := by
  rcases h with h | h
  · go_enter Tryd.func15, Tryd.ntmps15
    go_wp2
    go_ret2
    exact ⟨rfl, rfl⟩
  · go_enter Tryd.func15, Tryd.ntmps15
    go_wp2
    all_goals (go_ret2; exact ⟨rfl, rfl⟩)


/-! ### Same -/
theorem bits_xor_test (a b k : Nat) (ha : a < 4294967296) (hb : b < 4294967296) : (bits .xor .u32 (a : Int) (b : Int) / 2 ^ k != 0) = decide ((a ^^^ b) / 2 ^ k ≠ 0) := by
  rw [bits_xor a b ha hb, div_cast]
  generalize (a ^^^ b) / 2 ^ k = n
  by_cases h : n = 0
  · subst h; rfl
  · have h' : (n : Int) ≠ 0 := by omega
    simp [h]
theorem div_step (x k : Nat) : x / 2 ^ k = 2 * (x / 2 ^ (k + 1)) + bit x k := by
  unfold bit; rw [Nat.pow_succ, ← Nat.div_div_eq_div_mul]; omega
/-- of the words above the bit 31 - k nothing is left: the test at k asks for that bit alone -/
theorem same_test (a b k : Nat) (hk : k < 32) (h : (a ^^^ b) / 2 ^ (32 - k) = 0) :
    decide ((a ^^^ b) / 2 ^ (31 - k) ≠ 0) = decide (bit a (31 - k) ≠ bit b (31 - k)) := by
  have h1 := div_step (a ^^^ b) (31 - k)
  rw [show 31 - k + 1 = 32 - k from by omega, h, xor_bit] at h1
  rw [h1]
  by_cases c : bit a (31 - k) = bit b (31 - k) <;> simp [c]

set_option maxHeartbeats 400000 in
theorem Same_any (a b : Nat) (ha : a < 4294967296) (hb : b < 4294967296) (w : World) :
    Calls Tryd.prog 18 #[.int .u32 a, .int .u32 b] w fun e w' => e = .returned (.int .i64 (same a b : Nat)) ∧ w = w' := by
  have H0 : Sd ((a ^^^ b) / 2 ^ 32 = 0) := ⟨Nat.div_eq_of_lt (Nat.xor_lt_two_pow (lt32 ha) (lt32 hb))⟩
  go_enter Tryd.func18, Tryd.ntmps18
  go_wp2
  go_loop [6, 10] (fun _ i => ∃ k : Nat, k ≤ 32 ∧ i = .int .i64 k ∧ Sd ((a ^^^ b) / 2 ^ (32 - k) = 0) ∧ Sd (∀ j, j < k → decide (bit a (31 - j) ≠ bit b (31 - j)) = false)) (fun _ i => 32 - (intOf i).toNat)
  case atStart => exact ⟨0, by omega, rfl, H0, ⟨fun j hj => by omega⟩⟩
  case round =>
    obtain ⟨k, hk, rfl, hx, hj⟩ := hrel
    by_cases hlt : k < 32
    · have ht := (bits_xor_test a b (31 - k) ha hb).trans (same_test a b k hlt hx.out)
      by_cases c : bit a (31 - k) ≠ bit b (31 - k)
      · have ht' : (bits .xor .u32 (a : Int) (b : Int) / 2 ^ (31 - k) != 0) = true := ht.trans (decide_eq_true c)
        have C := Sd.mk c
        clear ht c
        go_wp2
        go_ret
        exact ⟨ret_int (by rw [show same a b = k from least_of hk hj.out (fun _ => decide_eq_true C.out)]), rfl⟩
      · have ht' : (bits .xor .u32 (a : Int) (b : Int) / 2 ^ (31 - k) != 0) = false := ht.trans (decide_eq_false c)
        have hd : Sd ((a ^^^ b) / 2 ^ (32 - (k + 1)) = 0) := by
          have := (bits_xor_test a b (31 - k) ha hb).symm.trans ht'
          exact ⟨by rw [show 32 - (k + 1) = 31 - k from by omega]; simpa using of_decide_eq_false this⟩
        have C := Sd.mk c
        clear ht c
        go_wp2
        go_round
        case rel =>
          refine ⟨k + 1, by omega, by go_num, hd, ⟨fun j hjk => ?_⟩⟩
          by_cases e : j = k
          · rw [e]; exact decide_eq_false C.out
          · exact hj.out j (by omega)
        case measure => simp [intOf]; omega
    · go_wp2
      go_ret
      have e : k = 32 := by omega
      exact ⟨ret_int (by rw [show same a b = 32 from least_of (Nat.le_refl _) (fun j hjk => hj.out j (by omega)) (fun h => by omega)]; rfl), rfl⟩


set_option maxHeartbeats 400000 in
theorem rSame_any (a b : Nat) (ha : a < 4294967296) (hb : b < 4294967296) (w : World) :
    Calls Tryd.prog 17 #[.int .u32 a, .int .u32 b] w fun e w' => e = .returned (.int .i64 (same a b : Nat)) ∧ Drew w w' := by
  go_enter Tryd.func17, Tryd.ntmps17
  go_wp2
  go_loopw [5] (fun i wr => ∃ k : Nat, k ≤ 32 ∧ i = .int .i64 k ∧ Sd (∀ j, j < k → decide (bit a (31 - j) ≠ bit b (31 - j)) = false) ∧ Drew w wr) (fun i _ => 32 - (intOf i).toNat)
  case atStart => exact ⟨0, by omega, rfl, ⟨fun j hj => by omega⟩, Drew.refl w⟩
  case round =>
    obtain ⟨k, hk, rfl, hj, ⟨m, rfl⟩⟩ := hrel
    by_cases hlt : k < 32
    · have h1 := shr_and a (31 - k) ha
      have h2 := shr_and b (31 - k) hb
      by_cases c : bit a (31 - k) = bit b (31 - k)
      · have ht : (bits .and .u32 ((a : Int) / 2 ^ (31 - k)) 1 != bits .and .u32 ((b : Int) / 2 ^ (31 - k)) 1) = false := by rw [h1, h2, c]; simp
        have C := Sd.mk c
        clear h1 h2 c
        go_wp2
        go_quiet (fail)
        go_wp2
        go_roundw
        case rel =>
          refine ⟨k + 1, by omega, by go_num, ⟨fun j hjk => ?_⟩, (Drew.refl w).step _⟩
          by_cases e : j = k
          · rw [e]; exact decide_eq_false (by simpa using C.out)
          · exact hj.out j (by omega)
        case measure => simp [intOf]; omega
      · have ht : (bits .and .u32 ((a : Int) / 2 ^ (31 - k)) 1 != bits .and .u32 ((b : Int) / 2 ^ (31 - k)) 1) = true := by rw [h1, h2]; simp; omega
        have C := Sd.mk c
        clear h1 h2 c
        go_wp2
        go_quiet (fail)
        go_wp2
        go_ret
        exact ⟨ret_int (by rw [show same a b = k from least_of hk hj.out (fun _ => decide_eq_true C.out)]), by repeat (first | exact Drew.refl _ | apply Drew.step)⟩
    · go_wp2
      go_ret
      exact ⟨ret_int (by rw [show same a b = 32 from least_of (Nat.le_refl _) (fun j hjk => hj.out j (by omega)) (fun h => by omega)]; rfl), by repeat (first | exact Drew.refl _ | apply Drew.step)⟩

/-! ### Low -/
set_option maxHeartbeats 400000 in
theorem Low_any (a : Nat) (ha : a < 4294967296) (w : World) :
    Calls Tryd.prog 19 #[.int .u32 a] w fun e w' => e = .returned (.int .i64 (low a : Nat)) ∧ w = w' := by
  go_enter Tryd.func19, Tryd.ntmps19
  go_wp2
  go_loop [3] (fun i => ∃ k : Nat, k ≤ 32 ∧ i = .int .i64 k ∧ Sd (∀ j, j < k → decide (bit a j = 1) = false)) (fun i => 32 - (intOf i).toNat)
  case atStart => exact ⟨0, by omega, rfl, ⟨fun j hj => by omega⟩⟩
  case round =>
    obtain ⟨k, hk, rfl, hj⟩ := hrel
    by_cases hlt : k < 32
    · have h1 := shr_and a k ha
      have hb := bit_lt a k
      by_cases c : bit a k = 1
      · have ht : (bits .and .u32 ((a : Int) / 2 ^ k) 1 == 0) = false := by rw [h1, c]; rfl
        have C := Sd.mk c
        clear h1 c hb
        go_wp2
        all_goals (go_ret; exact ⟨ret_int (by rw [show low a = k from least_of hk hj.out (fun _ => decide_eq_true C.out)]), rfl⟩)
      · have ht : (bits .and .u32 ((a : Int) / 2 ^ k) 1 == 0) = true := by rw [h1, show bit a k = 0 from by omega]; rfl
        have C := Sd.mk c
        clear h1 c hb
        go_wp2
        all_goals
          go_round
          case rel =>
            refine ⟨k + 1, by omega, by go_num, ⟨fun j hjk => ?_⟩⟩
            by_cases e : j = k
            · rw [e]; exact decide_eq_false C.out
            · exact hj.out j (by omega)
          case measure => simp [intOf]; omega
    · go_wp2
      all_goals
        go_ret
        have e : k = 32 := by omega
        exact ⟨ret_int (by rw [show low a = k from least_of hk hj.out (fun h => by omega)]), rfl⟩
set_option maxHeartbeats 400000 in
theorem rLow_any (a : Nat) (ha : a < 4294967296) (w : World) :
    Calls Tryd.prog 20 #[.int .u32 a] w fun e w' => e = .returned (.int .i64 (low a : Nat)) ∧ w = w' := by
  go_enter Tryd.func20, Tryd.ntmps20
  go_wp2
  go_loop [3] (fun i => ∃ k : Nat, k ≤ 32 ∧ i = .int .i64 k ∧ Sd (∀ j, j < k → decide (bit a j = 1) = false)) (fun i => 32 - (intOf i).toNat)
  case atStart => exact ⟨0, by omega, rfl, ⟨fun j hj => by omega⟩⟩
  case round =>
    obtain ⟨k, hk, rfl, hj⟩ := hrel
    by_cases hlt : k < 32
    · have h1 := shr_and a k ha
      have hb := bit_lt a k
      by_cases c : bit a k = 1
      · have ht : (bits .and .u32 ((a : Int) / 2 ^ k) 1 == 1) = true := by rw [h1, c]; rfl
        have C := Sd.mk c
        clear h1 c hb
        go_wp2
        go_ret
        exact ⟨ret_int (by rw [show low a = k from least_of hk hj.out (fun _ => decide_eq_true C.out)]), rfl⟩
      · have ht : (bits .and .u32 ((a : Int) / 2 ^ k) 1 == 1) = false := by rw [h1, show bit a k = 0 from by omega]; rfl
        have C := Sd.mk c
        clear h1 c hb
        go_wp2
        go_round
        case rel =>
          refine ⟨k + 1, by omega, by go_num, ⟨fun j hjk => ?_⟩⟩
          by_cases e : j = k
          · rw [e]; exact decide_eq_false C.out
          · exact hj.out j (by omega)
        case measure => simp [intOf]; omega
    · go_wp2
      go_ret
      have e : k = 32 := by omega
      exact ⟨ret_int (by rw [show low a = 32 from least_of (Nat.le_refl _) (fun j hjk => hj.out j (by omega)) (fun h => by omega)]; rfl), rfl⟩


/-! ### Ones -/
set_option maxHeartbeats 400000 in
theorem rOnes_any (a : Nat) (ha : a < 4294967296) (w : World) :
    Calls Tryd.prog 22 #[.int .u32 a] w fun e w' => e = .returned (.int .i64 (ones a : Nat)) ∧ w = w' := by
  go_enter Tryd.func22, Tryd.ntmps22
  go_wp2
  go_loop [3, 4] (fun u i => ∃ k : Nat, k ≤ 32 ∧ i = .int .i64 k ∧ u = .int .i64 (onesTo a k : Nat)) (fun _ i => 32 - (intOf i).toNat)
  case atStart => exact ⟨0, by omega, rfl, rfl⟩
  case round =>
    obtain ⟨k, hk, rfl, rfl⟩ := hrel
    have hle := ones_le a k
    by_cases hlt : k < 32
    · have H := Sd.mk (shr_and a k ha)
      have hb := bit_lt a k
      go_wp2
      go_round
      case rel => exact ⟨k + 1, by omega, by go_num, by rw [H.out, wrap_bit]; simp only [onesTo]; congr 1; unfold wrap64; omega⟩
      case measure => simp [intOf]; omega
    · go_wp2
      go_ret
      have e : k = 32 := by omega
      exact ⟨ret_int (by rw [e]; rfl), rfl⟩

/-! ### Turn -/
set_option maxHeartbeats 400000 in
theorem Turn_any (a : Nat) (ha : a < 4294967296) (w : World) :
    Calls Tryd.prog 23 #[.int .u32 a] w fun e w' => e = .returned (.int .u32 (turn a : Nat)) ∧ w = w' := by
  go_enter Tryd.func23, Tryd.ntmps23
  go_wp2
  go_loop [0, 3, 4] (fun x b i => ∃ k : Nat, k ≤ 32 ∧ i = .int .i64 k ∧ b = .int .u32 (rev a k : Nat) ∧ x = .int .u32 (a / 2 ^ k : Nat)) (fun _ _ i => 32 - (intOf i).toNat)
  case atStart => exact ⟨0, by omega, rfl, rfl, by simp⟩
  case round =>
    obtain ⟨k, hk, rfl, rfl, rfl⟩ := hrel
    by_cases hlt : k < 32
    · go_wp2
      go_round
      case rel => exact ⟨k + 1, by omega, by go_num, by rw [turn_step a k ha hlt], by rw [half_step]⟩
      case measure => simp [intOf]; omega
    · go_wp2
      go_ret
      have e : k = 32 := by omega
      exact ⟨ret_int (by rw [e]; rfl), rfl⟩
set_option maxHeartbeats 400000 in
theorem rTurn_any (a : Nat) (ha : a < 4294967296) (w : World) :
    Calls Tryd.prog 24 #[.int .u32 a] w fun e w' => e = .returned (.int .u32 (turn a : Nat)) ∧ w = w' := by
  go_enter Tryd.func24, Tryd.ntmps24
  go_wp2
  go_loop [3, 4] (fun b i => ∃ k : Nat, k ≤ 32 ∧ i = .int .i64 k ∧ b = .int .u32 (rev a k * 2 ^ (32 - k) : Nat)) (fun _ i => 32 - (intOf i).toNat)
  case atStart => exact ⟨0, by omega, rfl, by simp [rev]⟩
  case round =>
    obtain ⟨k, hk, rfl, rfl⟩ := hrel
    by_cases hlt : k < 32
    · go_wp2
      go_round
      case rel => exact ⟨k + 1, by omega, by go_num, by rw [rturn_step a k ha hlt]⟩
      case measure => simp [intOf]; omega
    · go_wp2
      go_ret
      have e : k = 32 := by omega
      exact ⟨ret_int (by subst e; simp [turn]), rfl⟩
set_option maxHeartbeats 400000 in
theorem rHigh_ok (n : Int) (h0 : 0 ≤ n) (h1 : n ≤ 32) (w : World) :
    Calls Tryd.prog 11 #[.int .i64 n] w fun e w' => e = .returned (.tuple #[.int .u32 (high n.toNat : Nat), .int .i64 0]) ∧ Drew w w' := by
  go_enter Tryd.func11, Tryd.ntmps11
  go_wp2
  go_loop [4, 5] (fun b i => ∃ k : Nat, (k : Int) ≤ n ∧ i = .int .i64 k ∧ b = .int .u32 (high k : Nat)) (fun _ i => 32 - (intOf i).toNat)
  case atStart => exact ⟨0, by omega, rfl, rfl⟩
  case round =>
    obtain ⟨k, hk, rfl, rfl⟩ := hrel
    by_cases hlt : (k : Int) < n
    · go_wp2
      go_round
      case rel => exact ⟨k + 1, by omega, by go_num, by rw [high_step ⟨k, by omega⟩]⟩
      case measure => simp [intOf]; omega
    · go_wp2
      go_ret2
      have e : n.toNat = k := by omega
      exact ⟨ret_two (by rw [e]) rfl, by repeat (first | exact Drew.refl _ | apply Drew.step)⟩
set_option maxHeartbeats 400000 in
theorem rHigh_bad (n : Int) (h : n < 0 ∨ 32 < n) (w : World) :
    Calls Tryd.prog 11 #[.int .i64 n] w fun e w' => e = .returned (.tuple #[.int .u32 0, .int .i64 1]) ∧ Drew w w' := by
  rcases h with h | h
  · go_enter Tryd.func11, Tryd.ntmps11
    go_wp2
    all_goals (go_ret2; exact ⟨rfl, by repeat (first | exact Drew.refl _ | apply Drew.step)⟩)
  · have h' : 0 ≤ n := by omega
    go_enter Tryd.func11, Tryd.ntmps11
    go_wp2
    all_goals (go_ret2; exact ⟨rfl, by repeat (first | exact Drew.refl _ | apply Drew.step)⟩)

/-! ### the reference's Keep and At -/
set_option maxHeartbeats 400000 in
theorem rKeep_ok (a : Nat) (ha : a < 4294967296) (n : Int) (h0 : 0 ≤ n) (h1 : n ≤ 32) (w : World) :
    Calls Tryd.prog 14 #[.int .u32 a, .int .i64 n] w fun e w' => e = .returned (.tuple #[.int .u32 (a &&& high n.toNat : Nat), .int .i64 0]) ∧ Drew w w' := by
  have H := Sd.mk (bits_and a (high n.toNat) ha (high_lt _))
  go_enter Tryd.func14, Tryd.ntmps14
  go_wp2_with (go_at_call 11; refine (rHigh_ok _ h0 h1 _).mono ?_; rintro e w' ⟨rfl, ⟨m, rfl⟩⟩)
  go_ret2
  exact ⟨ret_two H.out rfl, by repeat (first | exact Drew.refl _ | apply Drew.step)⟩
set_option maxHeartbeats 400000 in
theorem rKeep_bad (a : Nat) (n : Int) (h : n < 0 ∨ 32 < n) (w : World) :
    Calls Tryd.prog 14 #[.int .u32 a, .int .i64 n] w fun e w' => e = .returned (.tuple #[.int .u32 0, .int .i64 1]) ∧ Drew w w' := by
  rcases h with h | h
  · go_enter Tryd.func14, Tryd.ntmps14
    go_wp2
    all_goals (go_ret2; exact ⟨rfl, by repeat (first | exact Drew.refl _ | apply Drew.step)⟩)
  · have h' : 0 ≤ n := by omega
    go_enter Tryd.func14, Tryd.ntmps14
    go_wp2
    all_goals (go_ret2; exact ⟨rfl, by repeat (first | exact Drew.refl _ | apply Drew.step)⟩)
set_option maxHeartbeats 400000 in
theorem rAt_ok (a : Nat) (ha : a < 4294967296) (i : Int) (h0 : 0 ≤ i) (h1 : i < 32) (w : World) :
    Calls Tryd.prog 16 #[.int .u32 a, .int .i64 i] w fun e w' => e = .returned (.tuple #[.int .i64 (bit a (31 - i.toNat) : Nat), .int .i64 0]) ∧ w = w' := by
  have hj : (31 - i).toNat = 31 - i.toNat := by omega
  have H := Sd.mk (shr_and a (31 - i.toNat) ha)
  have HJ := Sd.mk hj
  clear hj
  go_enter Tryd.func16, Tryd.ntmps16
  go_wp2
  go_ret2
  exact ⟨ret_two (by rw [HJ.out, H.out]; exact wrap_bit _ _) rfl, rfl⟩
set_option maxHeartbeats 400000 in
theorem rAt_bad (a : Nat) (i : Int) (h : i < 0 ∨ 32 ≤ i) (w : World) :
    Calls Tryd.prog 16 #[.int .u32 a, .int .i64 i] w fun e w' => e = .returned (.tuple #[.int .i64 0, .int .i64 1]) ∧ w = w' := by
  rcases h with h | h
  · go_enter Tryd.func16, Tryd.ntmps16
    go_wp2
    all_goals (go_ret2; exact ⟨rfl, rfl⟩)
  · have h' : 0 ≤ i := by omega
    go_enter Tryd.func16, Tryd.ntmps16
    go_wp2
    all_goals (go_ret2; exact ⟨rfl, rfl⟩)

/-! ### Ones, by the table -/
/-- the table lies in the variable's block -/
def Tab (w : World) : Prop := ∀ i, i < 16 → w.cell? ⟨0, i, none⟩ = some (.int .i64 (nib i : Nat))
set_option maxHeartbeats 400000 in
theorem Ones_any (a : Nat) (ha : a < 4294967296) (w : World) (ht : Tab w) :
    Calls Tryd.prog 21 #[.int .u32 a] w fun e w' => e = .returned (.int .i64 (ones a : Nat)) ∧ w = w' := by
  have HT := Sd.mk ht
  clear ht
  go_enter Tryd.func21, Tryd.ntmps21
  go_wp2
  go_loop [3, 4, 5] (fun u _ i => ∃ k : Nat, k ≤ 8 ∧ i = .int .i64 k ∧ u = .int .i64 (onesTo a (4 * k) : Nat)) (fun _ _ i => 8 - (intOf i).toNat)
  case atStart => exact ⟨0, by omega, rfl, rfl⟩
  case round =>
    obtain ⟨k, hk, rfl, rfl⟩ := hrel
    by_cases hlt : k < 8
    · have hi := nib_idx a (4 * k) ha
      have hlo : 0 ≤ bits .and .u32 ((a : Int) / 2 ^ (4 * k)) 15 := by rw [hi]; omega
      have hup : bits .and .u32 ((a : Int) / 2 ^ (4 * k)) 15 < 16 := by rw [hi]; omega
      have hc : w.cell? ⟨0, (bits .and .u32 ((a : Int) / 2 ^ (4 * k)) 15).toNat, none⟩ = some (.int .i64 (nib (a / 2 ^ (4 * k) % 16) : Nat)) := by
        rw [hi]; exact HT.out _ (by omega)
      have h1 := ones_le a (4 * k)
      have h2 := ones_le (a / 2 ^ (4 * k) % 16) 4
      have h2' : nib (a / 2 ^ (4 * k) % 16) ≤ 4 := h2
      have HS := Sd.mk (nib_step a k)
      clear hi h2
      go_wp2
      go_round
      case rel => exact ⟨k + 1, by omega, by go_num, by rw [HS.out]; go_num⟩
      case measure => simp [intOf]; omega
    · go_wp2
      go_ret
      have e : k = 8 := by omega
      exact ⟨ret_int (by rw [e]; rfl), rfl⟩
end Go.Proofs.YtmmaciegboodlaaDoor
