/- The small functions of package lex and of its reference. -/
import Derived.WalkKit
import Derived.ChangeAlike
import Derived.Below
import Derived.LoopTactic
import Derived.BigQuiet
import Derived.Deep.QuietTactic
import Derived.Test.YtghlfpeifdikkaaDoorProg
import Derived.Test.YtghlfpeifdikkaaDoorLexQ
namespace Go.Proofs.YtghlfpeifdikkaaDoor
open Go.RowKit Go.Proofs.YtghlfpeifdikkaaDoor.Lex

/-- a fact that the walk does not use -/
structure Sd (p : Prop) : Prop where out : p

theorem at_get (s : ByteArray) (k : Nat) (h : k < s.size) : ((s[k]'h).toNat : Int) = (at_ s k : Nat) := by
  unfold at_
  have e : s[k]'h = s.get! k := by
    show s.data[k]'h = s.data[k]!
    rw [getElem!_pos]
  rw [e]
theorem at_lt (s : ByteArray) (k : Nat) : at_ s k < 256 := UInt8.toNat_lt _

theorem ret_int {k : IntKind} {a b : Int} (h : a = b) : Ending.returned (.int k a) = .returned (.int k b) := by rw [h]
theorem ret_bool {a b : Bool} (h : a = b) : Ending.returned (.bool a) = .returned (.bool b) := by rw [h]
set_option maxHeartbeats 1000000 in
theorem kind_any (c : Nat) (w : World) :
    Calls Tryd.prog 39 #[.int .i32 c] w fun e w' => e = .returned (.int .i64 (kd c : Nat)) ∧ w = w' := by
  go_enter Tryd.func39, Tryd.ntmps39
  go_wp2
  all_goals (go_ret; refine ⟨ret_int ?_, rfl⟩; unfold kd; (repeat' split) <;> (try simp only [beq_iff_eq, beq_eq_false_iff_ne, ne_eq] at *) <;> omega)
theorem bool_of {a b : Bool} (h : (a = true) ↔ (b = true)) : a = b := by cases a <;> cases b <;> simp_all
theorem blk_iff (c : Nat) : blk c = true ↔ c = 32 ∨ c = 9 ∨ c = 13 := by unfold blk; simp [or_assoc]
theorem kd1 (c : Nat) : (kd c == 1) = true ↔ 97 ≤ c ∧ c ≤ 122 := by
  unfold kd; (repeat' split) <;> simp <;> omega
theorem kd2 (c : Nat) : (kd c == 2) = true ↔ 48 ≤ c ∧ c ≤ 57 := by
  unfold kd; (repeat' split) <;> simp <;> omega
theorem kd3 (c : Nat) : (kd c == 3) = true ↔ c = 46 ∨ c = 47 ∨ c = 58 ∨ c = 42 := by
  unfold kd; (repeat' split) <;> simp <;> omega
set_option maxHeartbeats 1000000 in
theorem blank_any (c : Nat) (w : World) :
    Calls Tryd.prog 26 #[.int .u8 c] w fun e w' => e = .returned (.bool (blk c)) ∧ w = w' := by
  go_enter Tryd.func26, Tryd.ntmps26
  go_wp2
  all_goals (go_ret; refine ⟨ret_bool (bool_of ?_), rfl⟩; rw [blk_iff]; (try simp only [beq_iff_eq, Bool.or_eq_true] at *); first | omega | (simp; omega) | trace_state)
set_option maxHeartbeats 1000000 in
theorem letter_any (c : Nat) (w : World) :
    Calls Tryd.prog 27 #[.int .u8 c] w fun e w' => e = .returned (.bool (kd c == 1)) ∧ w = w' := by
  go_enter Tryd.func27, Tryd.ntmps27
  go_wp2
  all_goals (go_ret; refine ⟨ret_bool (bool_of ?_), rfl⟩; rw [kd1]; (try simp only [decide_eq_true_eq] at *); first | omega | (simp; omega) | trace_state)
set_option maxHeartbeats 1000000 in
theorem digit_any (c : Nat) (w : World) :
    Calls Tryd.prog 29 #[.int .u8 c] w fun e w' => e = .returned (.bool (kd c == 2)) ∧ w = w' := by
  go_enter Tryd.func29, Tryd.ntmps29
  go_wp2
  all_goals (go_ret; refine ⟨ret_bool (bool_of ?_), rfl⟩; rw [kd2]; (try simp only [decide_eq_true_eq] at *); first | omega | (simp; omega) | trace_state)
set_option maxHeartbeats 1000000 in
theorem sign_any (c : Nat) (w : World) :
    Calls Tryd.prog 32 #[.int .u8 c] w fun e w' => e = .returned (.bool (kd c == 3)) ∧ w = w' := by
  go_enter Tryd.func32, Tryd.ntmps32
  go_wp2
  all_goals (go_ret; refine ⟨ret_bool (bool_of ?_), rfl⟩; rw [kd3]; (try simp only [beq_iff_eq, Bool.or_eq_true] at *); first | omega | (simp; omega) | trace_state)

end Go.Proofs.YtghlfpeifdikkaaDoor
