/- The statement LexNil, walked: for any number it returns true. -/
import Derived.Test.YtghlfpeifdikkaaDoorLexK
namespace Go.Proofs.YtghlfpeifdikkaaDoor
open Go.RowKit Go.Proofs.YtghlfpeifdikkaaDoor.Lex

set_option maxHeartbeats 1000000 in
theorem next_nil (w : World) : Calls Tryd.prog 19 #[.pointer none] w fun e w' => e = .returned (.tuple #[tkV noTk, .bool false, .nilIface]) ∧ Below w.heap.size w w' := by
  go_enter Tryd.func19, Tryd.ntmps19
  go_wp2
  refine bodyPost_ret (v := .tuple #[tkV noTk, .bool false, .nilIface]) ?_ rfl ⟨rfl, (Below.refl _ _).alloc (Nat.le_refl _) _⟩
  simp [results, Tryd.results19, go_sem, tkV, noTk]
set_option maxHeartbeats 1000000 in
theorem back_nil (n : Int) (w : World) : Calls Tryd.prog 16 #[.pointer none, .int .i64 n] w fun e w' => e = .returned (.int .i64 3) ∧ w = w' := by
  go_enter Tryd.func16, Tryd.ntmps16
  go_wp2
  go_ret
  exact ⟨rfl, rfl⟩
set_option maxHeartbeats 2000000 in
theorem LawNil_any (n : Int) (w : World) (hE : ET w) : Calls Tryd.prog 6 #[.int .i64 n] w fun e w' => e = .returned (.bool true) ∧ Below w.heap.size w w' := by
  have HE := Sd.mk hE
  clear hE
  go_enter Tryd.func6, Tryd.ntmps6
  go_wp2_with fail
  refine (next_nil _).mono ?_
  rintro e w1 ⟨rfl, hb1⟩
  have HB1 := Sd.mk hb1
  have hs1 := hb1.size
  clear hb1
  unfold tkV noTk
  have hbx : Blk (w1.alloc (.cells zero5 38)) w1.heap.size zero5 38 := Blk.new _ _ _
  have HBX := Sd.mk hbx
  clear hbx
  go_wp2_with fail
  refine (awake_any _ (HE.out.move (HB1.out.alloc HB1.out.size _))).mono ?_
  rintro e w2 ⟨rfl, hb2⟩
  have hbx2 := HBX.out.below hb2 HBX.out.lt
  unfold zero5 at hbx2
  have a0 := hbx2.cell (i := 0) rfl
  have a1 := hbx2.cell (i := 1) rfl
  have a2 := hbx2.cell (i := 2) rfl
  have a3 := hbx2.cell (i := 3) rfl
  have a4 := hbx2.cell (i := 4) rfl
  have HB2 := Sd.mk ((HB1.out.alloc HB1.out.size _).trans (hb2.mono (by simp; omega)))
  clear hb2 hbx2
  go_wp2_with (go_at_call 16; refine (back_nil n _).mono ?_; rintro e w3 ⟨rfl, rfl⟩)
  go_ret
  exact ⟨rfl, HB2.out⟩
end Go.Proofs.YtghlfpeifdikkaaDoor
