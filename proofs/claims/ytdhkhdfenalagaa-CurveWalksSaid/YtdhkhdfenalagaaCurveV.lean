/- At where it refuses, and at any numbers. -/
import Derived.Test.YtdhkhdfenalagaaCurveY
namespace Go.Proofs.Ytdhkhdfenalagaa
open Go.RowKit Go.Shelf Go.Proofs.Ytdhkhdfenalagaa.Fl Go.Proofs.Ytdhkhdfenalagaa.Hil
attribute [local go_sem] Oper.semAt_some

set_option maxHeartbeats 1000000 in
set_option maxRecDepth 100000 in
theorem At_order (n p : Int) (h : n < 1 ∨ 16 < n) (w : World) :
    Calls Try.prog 10 #[.int .i64 n, .int .i64 p] w fun e w' => e = .returned (.tuple #[.complex .f64 0 0, .int .i64 130]) ∧ Below w.heap.size w w' := by
  have f26 : Fence.wide.fn 26 := trivial
  refine (callsIn_wide (n := 6)).1 ?_
  refine callsIn_of_wp_marks Try.func10 rfl trivial ?_ rfl
  simp only [Try.ntmps10, List.size_toArray, List.length_cons, List.length_nil, Nat.reduceAdd, Nat.reduceSub, Array.replicate_succ, Array.replicate_zero, List.push_toArray, List.append_toArray, List.nil_append, List.cons_append]
  gi_wp2_with (gi_at_call 26; refine (callsIn_wide.2 (order_bad n h _)).mono ?_; rintro e w' ⟨rfl, rfl⟩)
  exact ⟨_, results_tmp2 rfl _ _ _, rfl, Below.refl _ _⟩

set_option maxHeartbeats 1000000 in
set_option maxRecDepth 100000 in
theorem At_point (n p : Int) (h0 : 1 ≤ n) (h1 : n ≤ 16) (h : p < 0 ∨ ((4 ^ n.toNat : Nat) : Int) ≤ p) (w : World) :
    Calls Try.prog 10 #[.int .i64 n, .int .i64 p] w fun e w' => e = .returned (.tuple #[.complex .f64 0 0, .int .i64 131]) ∧ Below w.heap.size w w' := by
  obtain ⟨b1, b2, b3⟩ := pow4_bd n h0 h1
  rw [← pow4_i n h0, ← b1] at h
  have f26 : Fence.wide.fn 26 := trivial
  have f27 : Fence.wide.fn 27 := trivial
  clear b1 b2 b3
  refine (callsIn_wide (n := 6)).1 ?_
  refine callsIn_of_wp_marks Try.func10 rfl trivial ?_ rfl
  simp only [Try.ntmps10, List.size_toArray, List.length_cons, List.length_nil, Nat.reduceAdd, Nat.reduceSub, Array.replicate_succ, Array.replicate_zero, List.push_toArray, List.append_toArray, List.nil_append, List.cons_append]
  rcases h with h | h
  · gi_wp2_with (gi_at_call 26; refine (callsIn_wide.2 (order_ok n h0 h1 _)).mono ?_; rintro e w' ⟨rfl, rfl⟩)
    exact ⟨_, results_tmp2 rfl _ _ _, rfl, Below.refl _ _⟩
  · by_cases hp : p < 0
    · clear h
      gi_wp2_with (gi_at_call 26; refine (callsIn_wide.2 (order_ok n h0 h1 _)).mono ?_; rintro e w' ⟨rfl, rfl⟩)
      exact ⟨_, results_tmp2 rfl _ _ _, rfl, Below.refl _ _⟩
    · have h' : 0 ≤ p := by omega
      gi_wp2_with (gi_at_call 26; refine (callsIn_wide.2 (order_ok n h0 h1 _)).mono ?_; rintro e w' ⟨rfl, rfl⟩)
      exact ⟨_, results_tmp2 rfl _ _ _, rfl, Below.refl _ _⟩

end Go.Proofs.Ytdhkhdfenalagaa
