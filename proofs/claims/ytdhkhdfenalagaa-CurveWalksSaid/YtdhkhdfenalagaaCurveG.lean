/- The walk's iterator: what it gives, to whatever body. -/
import Derived.RangeFuncNested
import Derived.RangeFuncCalls
import Derived.Shelf.Abstract
import Derived.Shelf.RegionOpen
import Derived.OwnWalkIn
import Derived.TacticsInMore
import Derived.LoopNIn
import Derived.LoopIn
import Derived.Test.YtdhkhdfenalagaaCurveN
namespace Go.Proofs.Ytdhkhdfenalagaa
open Go.RowKit Go.Shelf Go.Proofs.Ytdhkhdfenalagaa.Fl Go.Proofs.Ytdhkhdfenalagaa.Hil
attribute [local go_sem] Oper.semAt_some

theorem grown_of_below {w w' : World} (h : Below w.heap.size w w') : w.grownBy w' none := ⟨h.os, h.tape, h.output, h.size, fun k hk _ => h.block k hk⟩
set_option maxHeartbeats 400000 in
theorem Walk_any (n : Int) (w : World) :
    Calls Try.prog 18 #[.int .i64 n] w fun e w' => e = .returned (.func (.func 33) #[] #[.pointer (some ⟨w.heap.size, 0, none⟩)]) ∧ w' = w.alloc (.cells #[.int .i64 n] 3) := by
  go_enter Try.func18, Try.ntmps18
  go_wp2
  go_ret
  exact ⟨rfl, rfl⟩

/-- how many points the walk of an order has -/
def cnt (n : Int) : Nat := if n < 1 ∨ 16 < n then 0 else 4 ^ n.toNat
/-- the point that the walk gives -/
def wpt (n : Int) (p : Nat) : Int × Int := hat n.toNat (p % 4 ^ n.toNat)
def enc (n : Int) (p : Nat) : Array Value := #[.complex .f64 (fl (wpt n p).1) (fl (wpt n p).2)]
theorem cnt_le (n : Int) : cnt n ≤ 4294967296 := by
  unfold cnt
  split
  · omega
  · exact lim4 n (by omega)
theorem atC_in (n : Int) (k : Nat) (h : k < cnt n) : atC n k = (wpt n k, 0) := by
  unfold cnt at h
  split at h
  · omega
  · rename_i hn
    unfold atC wpt
    rw [if_neg hn, if_neg (by omega), Nat.mod_eq_of_lt h]
    rfl
theorem atC_out (n : Int) (k : Nat) (h : cnt n ≤ k) : ∃ c, (c = 130 ∨ c = 131) ∧ atC n k = ((0, 0), c) := by
  unfold cnt at h
  split at h
  · rename_i hn
    exact ⟨130, .inl rfl, by unfold atC; rw [if_pos hn]⟩
  · rename_i hn
    exact ⟨131, .inr rfl, by unfold atC; rw [if_neg hn, if_pos (by omega)]⟩

set_option maxHeartbeats 2000000 in
set_option maxRecDepth 100000 in
theorem walk_in (m : Nat) (hm : 1 ≤ m) (l Bn n₀ : Nat) (n : Int) (J Jx : List Nat → World → Prop) (W : World) (hJ : ∀ s W1 W2, J s W1 → Below W1.heap.size W1 W2 → J s W2)
    (hY : ∀ pre x W1, J pre W1 → pre.length < cnt n → YieldAt Fence.wide (m - 1) Try.prog l (enc n x) W1 fun e W' =>
      (e = .returned (.bool true) ∧ J (pre ++ [x]) W' ∧ Below n₀ W1 W') ∨ (e = .returned (.bool false) ∧ Jx (pre ++ [x]) W'))
    (hB : Bn < n₀) (hc : W.cell? ⟨Bn, 0, none⟩ = some (.int .i64 n)) (h0 : J [] W) :
    CallsIn Fence.wide m Try.prog 33 #[.func (.yield l) #[] #[], .pointer (some ⟨Bn, 0, none⟩)] W fun e W' => (∃ v, e = .returned v) ∧
      ((∃ xs, xs = List.range (cnt n) ∧ J xs W') ∨ (∃ pre, pre <+: List.range (cnt n) ∧ Jx pre W')) := by
  have f10 : Fence.wide.fn 10 := trivial
  have hle := cnt_le n
  refine callsIn_of_wp Try.func33 rfl trivial ?_ rfl
  simp only [Try.ntmps33, List.size_toArray, List.length_cons, List.length_nil, Nat.reduceAdd, Nat.reduceSub, Array.replicate_succ, Array.replicate_zero, List.push_toArray, List.append_toArray, List.nil_append, List.cons_append]
  gi_wp2
  gi_loopw [3] (fun i wr => ∃ k : Nat, k ≤ cnt n ∧ i = .int .i64 k ∧ J (List.range k) wr ∧ wr.cell? ⟨Bn, 0, none⟩ = some (.int .i64 n)) (fun i _ => 4294967297 - (intOf i).toNat)
  case atStart => exact ⟨0, by omega, rfl, h0, hc⟩
  case round =>
    obtain ⟨k, hk, rfl, hJk, hck⟩ := hrel
    clear hc
    have CA := Sd.mk (At_any n k)
    have hlt : Bn < wr.heap.size := by
      by_cases hh : Bn < wr.heap.size
      · exact hh
      · simp [World.cell?, Array.getElem?_eq_none (Nat.le_of_not_lt hh)] at hck
    by_cases hkn : k < cnt n
    · rw [atC_in n k hkn] at CA
      have HC := CA.out wr
      clear CA
      gi_wp2_with fail
      refine (callsIn_wide.2 HC).mono ?_
      rintro e w1 ⟨rfl, hb⟩
      have hc1 := ((bcell hb).1 Bn 0 hlt).trans hck
      obtain ⟨fn, tmps, assign, body, hy, hR⟩ := hY (List.range k) k w1 (hJ _ _ _ hJk hb) (by simpa using hkn)
      unfold enc at hy
      generalize hz : wpt n k = z at *
      gi_wp2
      refine hR.mono ?_
      rintro e W3 (⟨rfl, hJ3, hk3⟩ | ⟨rfl, hJx3⟩)
      · have hc3 : W3.cell? ⟨Bn, 0, none⟩ = some (.int .i64 n) := (hk3.cell (p := ⟨Bn, 0, none⟩) hB).trans hc1
        gi_wp2
        go_roundw
        case rel => exact ⟨k + 1, by omega, by go_num, by rw [List.range_succ]; exact hJ3, hc3⟩
        case measure => simp [intOf]; omega
      · gi_wp2
        refine bodyPost_ret (results_none rfl _ _ _) rfl ?_
        exact ⟨⟨_, rfl⟩, .inr ⟨List.range k ++ [k], by rw [← List.range_succ]; exact List.prefix_iff_eq_take.2 (by rw [List.take_range]; congr 1; simp; omega), hJx3⟩⟩
    · obtain ⟨c, hc0, ha⟩ := atC_out n k (by omega)
      have E := Sd.mk (show k = cnt n by omega)
      rw [ha] at CA
      have HC := CA.out wr
      clear CA
      rcases hc0 with rfl | rfl
      all_goals
        gi_wp2_with fail
        refine (callsIn_wide.2 HC).mono ?_
        rintro e w1 ⟨rfl, hb⟩
        gi_wp2
        refine ⟨fun _ h => (by cases h), ?_⟩
        gi_wp2
        refine bodyPost_ret (results_none rfl _ _ _) rfl ?_
        exact ⟨⟨_, rfl⟩, .inl ⟨_, rfl, by rw [← E.out]; exact hJ _ _ _ hJk hb⟩⟩

theorem walk_stops (m : Nat) (hm : 1 ≤ m) (Bn n₀ : Nat) (n : Int) (w : World) (hB : Bn < n₀) (hn₀ : n₀ ≤ w.heap.size) (hc : w.cell? ⟨Bn, 0, none⟩ = some (.int .i64 n)) :
    SeqStopsK Fence.wide m Try.prog 33 #[.pointer (some ⟨Bn, 0, none⟩)] (enc n) (Below n₀) (fun xs => xs = List.range (cnt n)) (fun pre => pre <+: List.range (cnt n)) (cnt n) w := fun l J Jx W hW hJ _ hY h0 =>
  walk_in m hm l Bn n₀ n J Jx W (fun s W1 W2 h hb => hJ s W1 W2 none h (grown_of_below hb) (fun _ e => by cases e)) hY hB ((hW.cell (p := ⟨Bn, 0, none⟩) (by simp; omega)).trans hc) h0

end Go.Proofs.Ytdhkhdfenalagaa
