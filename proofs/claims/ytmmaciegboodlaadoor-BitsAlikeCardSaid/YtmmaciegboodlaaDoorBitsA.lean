/- The document's examples: awake is true. -/
import Derived.Test.YtmmaciegboodlaaDoorBitsT
namespace Go.Proofs.YtmmaciegboodlaaDoor
open Go.RowKit Go.Proofs.YtmmaciegboodlaaDoor.BitsPure

theorem Tab.below {w w' : World} (h : Tab w) (hb : Below w.heap.size w w') : Tab w' := fun i hi =>
  (hb.cell (p := ⟨0, i, none⟩) (World.block_lt_of_cell? w _ (h i hi))).trans (h i hi)
theorem below_then {w w1 w2 : World} (h : Below w.heap.size w w1) (k : Below w1.heap.size w1 w2) : Below w.heap.size w w2 :=
  h.trans (k.mono h.size)
theorem high8 : high 8 = 4278190080 := by decide
theorem keep16 : 3232235777 &&& high 16 = 3232235520 := by decide
theorem at0 : bit 2147483648 31 = 1 := by decide
theorem text4 : text 3221225472 4 = [49, 49, 48, 48] := by decide
theorem same31 : same 167772160 167772161 = 31 := by decide
theorem low3 : low 8 = 3 := by decide
theorem ones8 : ones 61680 = 8 := by decide
theorem turn1 : turn 1 = 2147483648 := by decide

set_option maxHeartbeats 1000000 in
theorem awake_any (w : World) (ht : Tab w) :
    Calls Tryd.prog 12 #[] w fun e w' => e = .returned (.bool true) ∧ Below w.heap.size w w' := by
  have HT := Sd.mk ht
  clear ht
  have c1 : ∀ W, Calls Tryd.prog 10 #[.int .i64 8] W fun e w' => e = .returned (.tuple #[.int .u32 4278190080, .int .i64 0]) ∧ W = w' := fun W => High_ok 8 (by omega) (by omega) W
  have c2 : ∀ W, Calls Tryd.prog 13 #[.int .u32 3232235777, .int .i64 16] W fun e w' => e = .returned (.tuple #[.int .u32 3232235520, .int .i64 0]) ∧ W = w' := fun W => Keep_ok 3232235777 (by omega) 16 (by omega) (by omega) W
  have c3 : ∀ W, Calls Tryd.prog 15 #[.int .u32 2147483648, .int .i64 0] W fun e w' => e = .returned (.tuple #[.int .i64 1, .int .i64 0]) ∧ W = w' := fun W => At_ok 2147483648 (by omega) 0 (by omega) (by omega) W
  have c4 : ∀ W, Calls Tryd.prog 25 #[.int .u32 3221225472, .int .i64 4] W fun e w' => e = .returned (.tuple #[.string ⟨#[49, 49, 48, 48]⟩, .int .i64 0]) ∧ Below W.heap.size W w' := fun W => Text_ok 3221225472 (by omega) 4 (by omega) (by omega) W
  have c5 : ∀ W, Calls Tryd.prog 18 #[.int .u32 167772160, .int .u32 167772161] W fun e w' => e = .returned (.int .i64 31) ∧ W = w' := fun W => Same_any 167772160 167772161 (by omega) (by omega) W
  have c6 : ∀ W, Calls Tryd.prog 19 #[.int .u32 8] W fun e w' => e = .returned (.int .i64 3) ∧ W = w' := fun W => Low_any 8 (by omega) W
  have c7 : ∀ W, Tab W → Calls Tryd.prog 21 #[.int .u32 61680] W fun e w' => e = .returned (.int .i64 8) ∧ W = w' := fun W h => Ones_any 61680 (by omega) W h
  have c8 : ∀ W, Calls Tryd.prog 23 #[.int .u32 1] W fun e w' => e = .returned (.int .u32 2147483648) ∧ W = w' := fun W => Turn_any 1 (by omega) W
  have C1 := Sd.mk c1; have C2 := Sd.mk c2; have C3 := Sd.mk c3; have C4 := Sd.mk c4; have C5 := Sd.mk c5; have C6 := Sd.mk c6; have C7 := Sd.mk c7; have C8 := Sd.mk c8
  clear c1 c2 c3 c4 c5 c6 c7 c8
  go_enter Tryd.func12, Tryd.ntmps12
  go_wp2_with (first | (go_at_call 10; refine (C1.out _).mono ?_; rintro e w' ⟨rfl, rfl⟩) | (go_at_call 13; refine (C2.out _).mono ?_; rintro e w' ⟨rfl, rfl⟩) | (go_at_call 15; refine (C3.out _).mono ?_; rintro e w' ⟨rfl, rfl⟩) | (go_at_call 25; refine (C4.out _).mono ?_))
  rintro e w1 ⟨rfl, hb⟩
  have HT1 := Sd.mk (HT.out.below hb)
  go_wp2_with (first | (go_at_call 18; refine (C5.out _).mono ?_; rintro e w' ⟨rfl, rfl⟩) | (go_at_call 19; refine (C6.out _).mono ?_; rintro e w' ⟨rfl, rfl⟩) | (go_at_call 21; refine (C7.out _ HT1.out).mono ?_; rintro e w' ⟨rfl, rfl⟩) | (go_at_call 23; refine (C8.out _).mono ?_; rintro e w' ⟨rfl, rfl⟩))
  go_ret
  exact ⟨rfl, hb⟩
end Go.Proofs.YtmmaciegboodlaaDoor
