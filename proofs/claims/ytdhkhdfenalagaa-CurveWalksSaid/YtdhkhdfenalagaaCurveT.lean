/- Turn: a point turned about nought by quarters. -/
import Derived.Test.YtdhkhdfenalagaaCurveF
namespace Go.Proofs.Ytdhkhdfenalagaa
open Go.RowKit Go.Proofs.Ytdhkhdfenalagaa.Fl

def rot (p : Nat × Nat) : Nat → Nat × Nat
  | 0 => p
  | k + 1 => (Op.negFloat .f64 (rot p k).2, (rot p k).1)

theorem wrap_i64 (n : Int) (h0 : 0 ≤ n) (h1 : n < 9223372036854775808) : IntKind.i64.wrap n = n := by rw [IntKind.wrap_i64]; omega
theorem and3 (q : Int) : bits .and .i64 q 3 = q % 4 := by
  show IntKind.i64.wrap ((BitVec.ofInt 64 q &&& BitVec.ofInt 64 3).toNat : Int) = _
  have e : (BitVec.ofInt 64 q &&& BitVec.ofInt 64 3).toNat = (q % 4).toNat := by
    rw [BitVec.toNat_and, show (BitVec.ofInt 64 3).toNat = 2 ^ 2 - 1 from rfl, Nat.and_two_pow_sub_one_eq_mod, BitVec.toNat_ofInt]
    omega
  rw [e, wrap_i64 _ (by omega) (by omega)]
  omega

theorem run_neg (b : Nat) (w : World) : (Op.unary .neg (.float .f64 b)).run Try.prog w = .ok (.float .f64 (Op.negFloat .f64 b)) w := rfl
set_option maxHeartbeats 400000 in
theorem Turn_m (a b : Nat) (q : Int) (m : Nat) (hm : (m : Int) = q % 4) (w : World) :
    Calls Try.prog 16 #[.complex .f64 a b, .int .i64 q] w fun e w' => e = .returned (.complex .f64 (rot (a, b) m).1 (rot (a, b) m).2) ∧ w = w' := by
  have hm4 : m < 4 := by omega
  have HA := Sd.mk ((and3 q).trans hm.symm)
  clear hm
  have hneg := run_neg
  go_enter Try.func16, Try.ntmps16
  go_wp2
  rw [HA.out]
  clear HA
  go_loop [0, 7] (fun z i => ∃ k : Nat, k ≤ m ∧ i = .int .i64 k ∧ z = .complex .f64 (rot (a, b) k).1 (rot (a, b) k).2) (fun _ i => 4 - (intOf i).toNat)
  case atStart => exact ⟨0, by omega, rfl, rfl⟩
  case round =>
    obtain ⟨k, hk, rfl, rfl⟩ := hrel
    by_cases hlt : k < m
    · go_wp2
      go_round
      case rel => exact ⟨k + 1, by omega, by go_num, rfl⟩
      case measure => simp [intOf]; omega
    · have e : k = m := by omega
      have E := Sd.mk e
      clear e
      go_wp2
      go_ret
      exact ⟨ret_c (by rw [E.out]) (by rw [E.out]), rfl⟩
theorem Turn_any (a b : Nat) (q : Int) (w : World) :
    Calls Try.prog 16 #[.complex .f64 a b, .int .i64 q] w fun e w' => e = .returned (.complex .f64 (rot (a, b) (q % 4).toNat).1 (rot (a, b) (q % 4).toNat).2) ∧ w = w' :=
  Turn_m a b q (q % 4).toNat (by omega) w

end Go.Proofs.Ytdhkhdfenalagaa
