/- What the small functions of package curve and of its reference give back. -/
import Derived.Test.YtdhkhdfenalagaaProg
import Derived.WalkKit
import Derived.WalkSpells
import Derived.WalkLawsBesides
import Derived.Deep.QuietTactic
import Derived.BigQuiet
import Derived.Deep.Draws
import Derived.Test.YtdhkhdfenalagaaFl2
namespace Go.Proofs.Ytdhkhdfenalagaa
open Go.RowKit Go.Proofs.Ytdhkhdfenalagaa.Fl

/-- a fact that the walk is not to use as a rule -/
structure Sd (p : Prop) : Prop where out : p
structure Drew (w w' : World) : Prop where out : ∃ n, w' = w.drewN n
theorem Drew.refl (w : World) : Drew w w := ⟨⟨0, rfl⟩⟩
theorem Drew.step {w w' : World} (h : Drew w w') (n : Nat) : Drew w (w'.drewN n) := by
  obtain ⟨m, rfl⟩ := h; exact ⟨⟨m + n, by simp [World.drewN, Nat.add_assoc]⟩⟩
theorem Drew.below {w w' : World} (h : Drew w w') : Below w.heap.size w w' := by
  obtain ⟨n, rfl⟩ := h
  exact ⟨rfl, rfl, rfl, Nat.le_refl _, fun _ _ => rfl⟩
theorem below_then {w w1 w2 : World} (h : Below w.heap.size w w1) (k : Below w1.heap.size w1 w2) : Below w.heap.size w w2 :=
  h.trans (k.mono h.size)
theorem ret_c {a b c d : Nat} (h : a = b) (h' : c = d) : Ending.returned (.complex .f64 a c) = .returned (.complex .f64 b d) := by rw [h, h']
theorem ret_int {k : IntKind} {a b : Int} (h : a = b) : Ending.returned (.int k a) = .returned (.int k b) := by rw [h]

set_option maxHeartbeats 400000 in
theorem number_any (x y : Int) (hx : x.natAbs < 9007199254740992) (hy : y.natAbs < 9007199254740992) (w : World) :
    Calls Try.prog 13 #[.agg #[.int .i64 x, .int .i64 y]] w fun e w' => e = .returned (.complex .f64 (fl x) (fl y)) ∧ Below w.heap.size w w' := by
  have H1 := Sd.mk (floatOfInt_fl x hx)
  have H2 := Sd.mk (floatOfInt_fl y hy)
  clear hx hy
  go_enter Try.func13, Try.ntmps13
  go_wp2
  go_ret
  exact ⟨ret_c H1.out H2.out, (Below.refl _ _).alloc (Nat.le_refl _) _⟩
set_option maxHeartbeats 400000 in
theorem flip_any (a b : Nat) (w : World) :
    Calls Try.prog 28 #[.complex .f64 a b] w fun e w' => e = .returned (.complex .f64 b a) ∧ w = w' := by
  go_enter Try.func28, Try.ntmps28
  go_wp2
  go_ret
  exact ⟨rfl, rfl⟩
set_option maxHeartbeats 400000 in
theorem order_ok (n : Int) (h0 : 1 ≤ n) (h1 : n ≤ 16) (w : World) :
    Calls Try.prog 26 #[.int .i64 n] w fun e w' => e = .returned (.int .i64 0) ∧ w = w' := by
  go_enter Try.func26, Try.ntmps26
  go_wp2
  go_ret
  exact ⟨rfl, rfl⟩
set_option maxHeartbeats 400000 in
theorem order_bad (n : Int) (h : n < 1 ∨ 16 < n) (w : World) :
    Calls Try.prog 26 #[.int .i64 n] w fun e w' => e = .returned (.int .i64 130) ∧ w = w' := by
  rcases h with h | h
  · go_enter Try.func26, Try.ntmps26
    go_wp2
    all_goals (go_ret; exact ⟨rfl, rfl⟩)
  · have h' : 1 ≤ n := by omega
    go_enter Try.func26, Try.ntmps26
    go_wp2
    all_goals (go_ret; exact ⟨rfl, rfl⟩)

theorem conv_fi (f : Nat) (L : Int) (hL : L ≤ 4503599627370496) (h0 : 0 ≤ L) (h : inB f L = true) (w : World) : (convert 33 3 (.float .f64 f)).run Try.prog w = .ok (.int .i64 (tr f)) w :=
  run_convert_float_int (P := Try.prog) w 33 3 .f64 .i64 f _ (by rw [Try.underlying33]; rfl) Try.underlying3 (in_tr f L hL h0 h).1

set_option maxHeartbeats 400000 in
theorem part_any (f : Nat) (L : Int) (h0 : 0 ≤ L) (h1 : L ≤ 65536) (w : World) :
    Calls Try.prog 30 #[.float .f64 f, .int .i64 L] w fun e w' => e = .returned (.bool (partB f L)) ∧ w = w' := by
  have hfl : floatOfInt .f64 L = fl L := floatOfInt_fl L (by omega)
  cases c1 : (Ieee.double.order f 0 == some .gt || Ieee.double.order f 0 == some .eq) with
  | false =>
    have hp : partB f L = false := by unfold partB inB; rw [c1]; rfl
    have c1' : (FloatKind.f64.format.order f 0 == some .gt || FloatKind.f64.format.order f 0 == some .eq) = false := c1
    rw [hp]
    clear hp c1 hfl
    go_enter Try.func30, Try.ntmps30
    go_wp2
    all_goals (go_ret; exact ⟨rfl, rfl⟩)
  | true =>
    have c1' : (FloatKind.f64.format.order f 0 == some .gt || FloatKind.f64.format.order f 0 == some .eq) = true := c1
    cases c2 : (Ieee.double.order f (fl L) == some .lt) with
    | false =>
      have hp : partB f L = false := by unfold partB inB; rw [c1, c2]; rfl
      have c2' : (FloatKind.f64.format.order f (floatOfInt .f64 L) == some .lt) = false := by rw [hfl]; exact c2
      rw [hp]
      clear hp c1 c2 hfl
      go_enter Try.func30, Try.ntmps30
      go_wp2
      all_goals (go_ret; exact ⟨rfl, rfl⟩)
    | true =>
      have hin : inB f L = true := by unfold inB; rw [c1, c2]; rfl
      obtain ⟨_, t0, t1⟩ := in_tr f L (by omega) h0 hin
      have hft : floatOfInt .f64 (tr f) = fl (tr f) := floatOfInt_fl _ (by omega)
      have c2' : (FloatKind.f64.format.order f (floatOfInt .f64 L) == some .lt) = true := by rw [hfl]; exact c2
      have hcv := conv_fi f L (by omega) h0 hin
      have hp : partB f L = (FloatKind.f64.format.order f (floatOfInt .f64 (tr f)) == some .eq) := by unfold partB; rw [hin, hft]; rfl
      rw [hp]
      clear hp c1 c2 hfl hft hin t0 t1
      go_enter Try.func30, Try.ntmps30
      go_wp2
      all_goals (go_ret; exact ⟨rfl, rfl⟩)
theorem order_comm (x y : Nat) : (Ieee.double.order x y == some .eq) = (Ieee.double.order y x == some .eq) := by
  unfold Ieee.Format.order
  rcases read_form x with ⟨neg, m, e, hf, _⟩ | ⟨s, hf⟩ | ⟨s, u, hf⟩ <;> rcases read_form y with ⟨neg', m', e', hf', _⟩ | ⟨s', hf'⟩ | ⟨s', u', hf'⟩ <;> rw [hf, hf']
  · simp only [Ieee.Datum.order]
    rw [Int.min_comm e' e]
    generalize Ieee.signed neg m _ = p
    generalize Ieee.signed neg' m' _ = q
    rw [Bool.eq_iff_iff]
    constructor
    · intro h; rw [cmp_eq h]; simp [compare, compareOfLessAndEq]
    · intro h; rw [cmp_eq h]; simp [compare, compareOfLessAndEq]
  · cases s' <;> rfl
  · rfl
  · cases s <;> rfl
  · cases s <;> cases s' <;> rfl
  · rfl
  · rfl
  · rfl
  · rfl
set_option maxHeartbeats 400000 in
theorem whole_any (f : Nat) (L : Int) (h0 : 0 ≤ L) (h1 : L ≤ 65536) (w : World) :
    Calls Try.prog 31 #[.float .f64 f, .int .i64 L] w fun e w' => e = .returned (.int .i64 (if partB f L = true then tr f else -1)) ∧ w = w' := by
  have hfl : floatOfInt .f64 L = fl L := floatOfInt_fl L (by omega)
  cases c1 : (Ieee.double.order f 0 == some .gt || Ieee.double.order f 0 == some .eq) with
  | false =>
    have hp : partB f L = false := by unfold partB inB; rw [c1]; rfl
    have c1' : (FloatKind.f64.format.order f 0 == some .gt || FloatKind.f64.format.order f 0 == some .eq) = false := c1
    rw [hp]
    clear hp c1 hfl
    go_enter Try.func31, Try.ntmps31
    go_wp2
    all_goals (go_ret; exact ⟨rfl, rfl⟩)
  | true =>
    have c1' : (FloatKind.f64.format.order f 0 == some .gt || FloatKind.f64.format.order f 0 == some .eq) = true := c1
    cases c2 : (Ieee.double.order f (fl L) == some .lt) with
    | false =>
      have hp : partB f L = false := by unfold partB inB; rw [c1, c2]; rfl
      have c2' : (FloatKind.f64.format.order f (floatOfInt .f64 L) == some .lt) = false := by rw [hfl]; exact c2
      rw [hp]
      clear hp c1 c2 hfl
      go_enter Try.func31, Try.ntmps31
      go_wp2
      all_goals (go_ret; exact ⟨rfl, rfl⟩)
    | true =>
      have hin : inB f L = true := by unfold inB; rw [c1, c2]; rfl
      obtain ⟨_, t0, t1⟩ := in_tr f L (by omega) h0 hin
      have hft : floatOfInt .f64 (tr f) = fl (tr f) := floatOfInt_fl _ (by omega)
      have c2' : (FloatKind.f64.format.order f (floatOfInt .f64 L) == some .lt) = true := by rw [hfl]; exact c2
      have hcv := conv_fi f L (by omega) h0 hin
      have hp : partB f L = (FloatKind.f64.format.order (floatOfInt .f64 (tr f)) f == some .eq) := by
        unfold partB; rw [hin, hft, order_comm]; rfl
      rw [hp]
      clear hp c1 c2 hfl hft hin t0 t1
      cases c3 : (FloatKind.f64.format.order (floatOfInt .f64 (tr f)) f == some .eq)
      all_goals
        go_enter Try.func31, Try.ntmps31
        go_wp2
        all_goals (go_ret; exact ⟨rfl, rfl⟩)

end Go.Proofs.Ytdhkhdfenalagaa
