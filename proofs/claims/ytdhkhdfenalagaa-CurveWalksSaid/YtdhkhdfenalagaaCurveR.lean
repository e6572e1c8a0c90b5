/- What the reference's functions on the walk give back. -/
import Derived.Test.YtdhkhdfenalagaaCurveF
import Derived.Test.YtdhkhdfenalagaaCurveP
namespace Go.Proofs.Ytdhkhdfenalagaa
open Go.RowKit Go.Proofs.Ytdhkhdfenalagaa.Fl Go.Proofs.Ytdhkhdfenalagaa.Hil

def ptV (p : Int × Int) : Value := .agg #[.int .i64 p.1, .int .i64 p.2]
theorem pow_le16 {k : Nat} (hk : k ≤ 15) : (2 : Nat) ^ k ≤ 32768 := Nat.pow_le_pow_right (by omega) hk
theorem sq_pow (k : Nat) : (2 : Int) ^ k * 2 ^ k = ((4 ^ k : Nat) : Int) := by
  rw [← Int.pow_add]
  push_cast
  rw [show (4 : Int) = 2 ^ 2 from rfl, ← Int.pow_mul]
  congr 1; omega

theorem bcell {W w1 : World} (hb : Below W.heap.size W w1) : (∀ b o, b < W.heap.size → w1.cell? ⟨b, o, none⟩ = W.cell? ⟨b, o, none⟩) ∧ (∀ b o, b < W.heap.size → w1.frozen? ⟨b, o, none⟩ = W.frozen? ⟨b, o, none⟩) :=
  ⟨fun b o h => hb.cell (p := ⟨b, o, none⟩) h, fun b o h => hb.frozen (p := ⟨b, o, none⟩) h⟩

theorem pow_facts (k : Nat) (hk : k ≤ 15) : (2 : Int) ^ k ≤ 32768 ∧ (0 : Int) < 2 ^ k ∧ wrap64 ((2 : Int) ^ k * 2 ^ k) = 4 ^ k ∧ (0 : Int) < 4 ^ k := by
  have hpow : (2 : Int) ^ k ≤ 32768 := by 
    have h := pow_le16 (k := k) hk
    have e : ((2 : Int) ^ k) = ((2 ^ k : Nat) : Int) := by simp
    rw [e]; generalize 2 ^ k = t at *; omega
  have hpos := pow2_pos k
  refine ⟨hpow, hpos, ?_, Int.pow_pos (by omega)⟩
  have h1 : (2 : Int) ^ k * 2 ^ k ≤ 32768 * 32768 := Int.mul_le_mul hpow hpow (by omega) (by omega)
  have h2 : (0 : Int) < 2 ^ k * 2 ^ k := Int.mul_pos hpos hpos
  have h3 : wrap64 ((2 : Int) ^ k * 2 ^ k) = 2 ^ k * 2 ^ k := by generalize (2 : Int) ^ k * 2 ^ k = t at *; unfold wrap64; omega
  rw [h3, sq_pow]; push_cast; rfl

set_option maxHeartbeats 1000000 in
set_option maxRecDepth 100000 in
theorem at_zero (p : Nat) (w : World) :
    Calls Try.prog 29 #[.int .i64 0, .int .i64 p] w fun e w' => e = .returned (.agg #[.int .i64 0, .int .i64 0]) ∧ Below w.heap.size w w' := by
  go_enter Try.func29, Try.ntmps29
  go_wp2_with fail
  refine bodyPost_ret (v := .agg #[.int .i64 0, .int .i64 0]) (by simp [results, Try.results29, go_sem]) rfl ⟨rfl, ?_⟩
  exact ((Below.refl _ _).alloc (Nat.le_refl _) _)

set_option maxHeartbeats 1000000 in
set_option maxRecDepth 100000 in
theorem at_step0 (k p : Nat) (w : World) (hk : k ≤ 15) (hq : (p : Int) / 4 ^ k = 0) (x y : Int) (_ : 0 ≤ x) (_ : x < 2 ^ k) (_ : 0 ≤ y) (_ : y < 2 ^ k)
    (C : ∀ W, Calls Try.prog 29 #[.int .i64 k, .int .i64 ((p : Int) % 4 ^ k)] W fun e w' => e = .returned (.agg #[.int .i64 x, .int .i64 y]) ∧ Below W.heap.size W w') :
    Calls Try.prog 29 #[.int .i64 (k + 1 : Nat), .int .i64 p] w fun e w' => e = .returned (.agg #[.int .i64 y, .int .i64 x]) ∧ Below w.heap.size w w' := by
  obtain ⟨hpow, hpos, hsq, h4⟩ := pow_facts k hk
  have hq' : wrap64 ((p : Int) / 4 ^ k) = 0 := by rw [hq]; unfold wrap64; omega
  have HC := Sd.mk C
  clear C hq
  go_enter Try.func29, Try.ntmps29
  go_wp2_with (go_at_call 29; refine (HC.out _).mono ?_)
  rintro e w1 ⟨rfl, hb⟩
  obtain ⟨hc, hf⟩ := bcell hb
  have hz : w.heap.size < w1.heap.size := by have := hb.size; simp at this; omega
  go_wp2
  refine bodyPost_ret (v := .agg #[.int .i64 y, .int .i64 x]) (by simp [results, Try.results29, go_sem, hc, hz]) rfl ⟨rfl, ?_⟩
  exact (((((Below.refl _ _).alloc (Nat.le_refl _) _).trans (hb.mono (by simp))).setCell (p := ⟨w.heap.size, 0, none⟩) (Nat.le_refl _) _).setCell (p := ⟨w.heap.size, 1, none⟩) (Nat.le_refl _) _).alloc (by simp; omega) _


set_option maxHeartbeats 1000000 in
set_option maxRecDepth 100000 in
theorem at_step1 (k p : Nat) (w : World) (hk : k ≤ 15) (hq : (p : Int) / 4 ^ k = 1) (x y : Int) (_ : 0 ≤ x) (_ : x < 2 ^ k) (hy0 : 0 ≤ y) (hy : y < 2 ^ k)
    (C : ∀ W, Calls Try.prog 29 #[.int .i64 k, .int .i64 ((p : Int) % 4 ^ k)] W fun e w' => e = .returned (.agg #[.int .i64 x, .int .i64 y]) ∧ Below W.heap.size W w') :
    Calls Try.prog 29 #[.int .i64 (k + 1 : Nat), .int .i64 p] w fun e w' => e = .returned (.agg #[.int .i64 x, .int .i64 (y + 2 ^ k)]) ∧ Below w.heap.size w w' := by
  obtain ⟨hpow, hpos, hsq, h4⟩ := pow_facts k hk
  have hq' : wrap64 ((p : Int) / 4 ^ k) = 1 := by rw [hq]; unfold wrap64; omega
  have HC := Sd.mk C
  clear C hq
  go_enter Try.func29, Try.ntmps29
  go_wp2_with (go_at_call 29; refine (HC.out _).mono ?_)
  rintro e w1 ⟨rfl, hb⟩
  obtain ⟨hc, hf⟩ := bcell hb
  have hz : w.heap.size < w1.heap.size := by have := hb.size; simp at this; omega
  go_wp2
  refine bodyPost_ret (v := .agg #[.int .i64 x, .int .i64 (y + 2 ^ k)]) (by simp [results, Try.results29, go_sem, hc, hz]) rfl ⟨rfl, ?_⟩
  exact (((((Below.refl _ _).alloc (Nat.le_refl _) _).trans (hb.mono (by simp))).setCell (p := ⟨w.heap.size, 0, none⟩) (Nat.le_refl _) _).setCell (p := ⟨w.heap.size, 1, none⟩) (Nat.le_refl _) _).alloc (by simp; omega) _


set_option maxHeartbeats 1000000 in
set_option maxRecDepth 100000 in
theorem at_step2 (k p : Nat) (w : World) (hk : k ≤ 15) (hq : (p : Int) / 4 ^ k = 2) (x y : Int) (hx0 : 0 ≤ x) (hx : x < 2 ^ k) (hy0 : 0 ≤ y) (hy : y < 2 ^ k)
    (C : ∀ W, Calls Try.prog 29 #[.int .i64 k, .int .i64 ((p : Int) % 4 ^ k)] W fun e w' => e = .returned (.agg #[.int .i64 x, .int .i64 y]) ∧ Below W.heap.size W w') :
    Calls Try.prog 29 #[.int .i64 (k + 1 : Nat), .int .i64 p] w fun e w' => e = .returned (.agg #[.int .i64 (x + 2 ^ k), .int .i64 (y + 2 ^ k)]) ∧ Below w.heap.size w w' := by
  obtain ⟨hpow, hpos, hsq, h4⟩ := pow_facts k hk
  have hq' : wrap64 ((p : Int) / 4 ^ k) = 2 := by rw [hq]; unfold wrap64; omega
  have HC := Sd.mk C
  clear C hq
  go_enter Try.func29, Try.ntmps29
  go_wp2_with (go_at_call 29; refine (HC.out _).mono ?_)
  rintro e w1 ⟨rfl, hb⟩
  obtain ⟨hc, hf⟩ := bcell hb
  have hz : w.heap.size < w1.heap.size := by have := hb.size; simp at this; omega
  go_wp2
  refine bodyPost_ret (v := .agg #[.int .i64 (x + 2 ^ k), .int .i64 (y + 2 ^ k)]) (by simp [results, Try.results29, go_sem, hc, hz]) rfl ⟨rfl, ?_⟩
  exact (((((Below.refl _ _).alloc (Nat.le_refl _) _).trans (hb.mono (by simp))).setCell (p := ⟨w.heap.size, 0, none⟩) (Nat.le_refl _) _).setCell (p := ⟨w.heap.size, 1, none⟩) (Nat.le_refl _) _).alloc (by simp; omega) _


set_option maxHeartbeats 1000000 in
set_option maxRecDepth 100000 in
theorem at_step3 (k p : Nat) (w : World) (hk : k ≤ 15) (hq : (p : Int) / 4 ^ k = 3) (x y : Int) (hx0 : 0 ≤ x) (hx : x < 2 ^ k) (hy0 : 0 ≤ y) (hy : y < 2 ^ k)
    (C : ∀ W, Calls Try.prog 29 #[.int .i64 k, .int .i64 ((p : Int) % 4 ^ k)] W fun e w' => e = .returned (.agg #[.int .i64 x, .int .i64 y]) ∧ Below W.heap.size W w') :
    Calls Try.prog 29 #[.int .i64 (k + 1 : Nat), .int .i64 p] w fun e w' => e = .returned (.agg #[.int .i64 (2 * 2 ^ k - 1 - y), .int .i64 (2 ^ k - 1 - x)]) ∧ Below w.heap.size w w' := by
  obtain ⟨hpow, hpos, hsq, h4⟩ := pow_facts k hk
  have hq' : wrap64 ((p : Int) / 4 ^ k) = 3 := by rw [hq]; unfold wrap64; omega
  have HC := Sd.mk C
  clear C hq
  go_enter Try.func29, Try.ntmps29
  go_wp2_with (go_at_call 29; refine (HC.out _).mono ?_)
  rintro e w1 ⟨rfl, hb⟩
  obtain ⟨hc, hf⟩ := bcell hb
  have hz : w.heap.size < w1.heap.size := by have := hb.size; simp at this; omega
  go_wp2
  refine bodyPost_ret (v := .agg #[.int .i64 (2 * 2 ^ k - 1 - y), .int .i64 (2 ^ k - 1 - x)]) (by simp [results, Try.results29, go_sem, hc, hz]) rfl ⟨rfl, ?_⟩
  exact (((((Below.refl _ _).alloc (Nat.le_refl _) _).trans (hb.mono (by simp))).setCell (p := ⟨w.heap.size, 0, none⟩) (Nat.le_refl _) _).setCell (p := ⟨w.heap.size, 1, none⟩) (Nat.le_refl _) _).alloc (by simp; omega) _


theorem at_any (k : Nat) : ∀ (p : Nat) (w : World), k ≤ 16 → p < 4 ^ k →
    Calls Try.prog 29 #[.int .i64 k, .int .i64 p] w fun e w' => e = .returned (ptV (hat k p)) ∧ Below w.heap.size w w' := by
  induction k with
  | zero => intro p w _ _; exact at_zero p w
  | succ k ih =>
    intro p w hk hp
    have hm := Nat.mod_lt p (pow4_pos k)
    have bd := hat_bd k (p % 4 ^ k) hm
    have C : ∀ W, Calls Try.prog 29 #[.int .i64 k, .int .i64 ((p : Int) % 4 ^ k)] W fun e w' => e = .returned (.agg #[.int .i64 (hat k (p % 4 ^ k)).1, .int .i64 (hat k (p % 4 ^ k)).2]) ∧ Below W.heap.size W w' := by
      intro W
      have := ih (p % 4 ^ k) W (by omega) hm
      have e : ((p % 4 ^ k : Nat) : Int) = (p : Int) % 4 ^ k := by push_cast; rfl
      rw [e] at this
      exact this
    have hd : ((p / 4 ^ k : Nat) : Int) = (p : Int) / 4 ^ k := by push_cast; rfl
    have hq := div4_lt k p hp
    have hk' : k ≤ 15 := by omega
    simp only [hat]
    rcases (show p / 4 ^ k = 0 ∨ p / 4 ^ k = 1 ∨ p / 4 ^ k = 2 ∨ p / 4 ^ k = 3 from by generalize p / 4 ^ k = q at *; omega) with e | e | e | e
    · rw [if_pos e]
      exact at_step0 k p w hk' (by rw [← hd, e]; rfl) _ _ bd.1 bd.2.1 bd.2.2.1 bd.2.2.2 C
    · rw [if_neg (by rw [e]; decide), if_pos e]
      exact at_step1 k p w hk' (by rw [← hd, e]; rfl) _ _ bd.1 bd.2.1 bd.2.2.1 bd.2.2.2 C
    · rw [if_neg (by rw [e]; decide), if_neg (by rw [e]; decide), if_pos e]
      exact at_step2 k p w hk' (by rw [← hd, e]; rfl) _ _ bd.1 bd.2.1 bd.2.2.1 bd.2.2.2 C
    · rw [if_neg (by rw [e]; decide), if_neg (by rw [e]; decide), if_neg (by rw [e]; decide)]
      exact at_step3 k p w hk' (by rw [← hd, e]; rfl) _ _ bd.1 bd.2.1 bd.2.2.1 bd.2.2.2 C


theorem pow4_facts (k : Nat) (hk : k ≤ 15) : (4 : Int) ^ k ≤ 1073741824 := by
  have h : 4 ^ k ≤ 4 ^ 15 := Nat.pow_le_pow_right (by omega) hk
  have e : ((4 : Int) ^ k) = ((4 ^ k : Nat) : Int) := by simp
  have e2 : (4 : Nat) ^ 15 = 1073741824 := rfl
  rw [e]; rw [e2] at h; generalize 4 ^ k = t at *; omega
set_option maxHeartbeats 1000000 in
theorem place_zero (x y : Int) (w : World) :
    Calls Try.prog 32 #[.int .i64 0, .agg #[.int .i64 x, .int .i64 y]] w fun e w' => e = .returned (.int .i64 0) ∧ Below w.heap.size w w' := by
  go_enter Try.func32, Try.ntmps32
  go_wp2_with fail
  go_ret
  exact ⟨rfl, (Below.refl _ _).alloc (Nat.le_refl _) _⟩

set_option maxHeartbeats 1000000 in
theorem place_step0 (k : Nat) (w : World) (hk : k ≤ 15) (x y : Int) (_ : 0 ≤ x) (_ : x < 2 * 2 ^ k) (_ : 0 ≤ y) (_ : y < 2 * 2 ^ k) (c1 : x < 2 ^ k) (c2 : y < 2 ^ k) (r : Nat) (hr : r < 4 ^ k)
    (C : ∀ W, Calls Try.prog 32 #[.int .i64 k, .agg #[.int .i64 (y), .int .i64 (x)]] W fun e w' => e = .returned (.int .i64 r) ∧ Below W.heap.size W w') :
    Calls Try.prog 32 #[.int .i64 (k + 1 : Nat), .agg #[.int .i64 x, .int .i64 y]] w fun e w' => e = .returned (.int .i64 (0 * 4 ^ k + r : Nat)) ∧ Below w.heap.size w w' := by
  obtain ⟨hpow, hpos, hsq, h4⟩ := pow_facts k hk
  have h4b := pow4_facts k hk
  have hri : (r : Int) < 4 ^ k := by
    have e : ((4 : Int) ^ k) = ((4 ^ k : Nat) : Int) := by simp
    rw [e]; exact Int.ofNat_lt.2 hr
  have HE : Sd ((((0 * 4 ^ k + r : Nat) : Nat) : Int) = 0 * 4 ^ k + r) := ⟨by push_cast; rfl⟩
  have HC := Sd.mk C
  clear C hr
  go_enter Try.func32, Try.ntmps32
  go_wp2_with (go_at_call 32; refine (HC.out _).mono ?_; rintro e w1 ⟨rfl, hb⟩)
  go_ret
  exact ⟨ret_int (by first | (rw [HE.out]; done) | (rw [HE.out]; simp; done) | (rw [HE.out]; omega)), ((Below.refl _ _).alloc (Nat.le_refl _) _).trans (Below.mono ‹_› (by simp))⟩

set_option maxHeartbeats 1000000 in
theorem place_step1 (k : Nat) (w : World) (hk : k ≤ 15) (x y : Int) (_ : 0 ≤ x) (_ : x < 2 * 2 ^ k) (_ : 0 ≤ y) (hy : y < 2 * 2 ^ k) (c1 : x < 2 ^ k) (c2 : 2 ^ k ≤ y) (r : Nat) (hr : r < 4 ^ k)
    (C : ∀ W, Calls Try.prog 32 #[.int .i64 k, .agg #[.int .i64 (x), .int .i64 (y - 2 ^ k)]] W fun e w' => e = .returned (.int .i64 r) ∧ Below W.heap.size W w') :
    Calls Try.prog 32 #[.int .i64 (k + 1 : Nat), .agg #[.int .i64 x, .int .i64 y]] w fun e w' => e = .returned (.int .i64 (1 * 4 ^ k + r : Nat)) ∧ Below w.heap.size w w' := by
  obtain ⟨hpow, hpos, hsq, h4⟩ := pow_facts k hk
  have h4b := pow4_facts k hk
  have hri : (r : Int) < 4 ^ k := by
    have e : ((4 : Int) ^ k) = ((4 ^ k : Nat) : Int) := by simp
    rw [e]; exact Int.ofNat_lt.2 hr
  have HE : Sd ((((1 * 4 ^ k + r : Nat) : Nat) : Int) = 1 * 4 ^ k + r) := ⟨by push_cast; rfl⟩
  have HC := Sd.mk C
  clear C hr
  go_enter Try.func32, Try.ntmps32
  go_wp2_with (go_at_call 32; refine (HC.out _).mono ?_; rintro e w1 ⟨rfl, hb⟩)
  go_ret
  exact ⟨ret_int (by first | (rw [HE.out]; done) | (rw [HE.out]; simp; done) | (rw [HE.out]; omega)), ((Below.refl _ _).alloc (Nat.le_refl _) _).trans (Below.mono ‹_› (by simp))⟩

set_option maxHeartbeats 1000000 in
theorem place_step2 (k : Nat) (w : World) (hk : k ≤ 15) (x y : Int) (_ : 0 ≤ x) (hx : x < 2 * 2 ^ k) (_ : 0 ≤ y) (hy : y < 2 * 2 ^ k) (c1 : 2 ^ k ≤ x) (c2 : 2 ^ k ≤ y) (r : Nat) (hr : r < 4 ^ k)
    (C : ∀ W, Calls Try.prog 32 #[.int .i64 k, .agg #[.int .i64 (x - 2 ^ k), .int .i64 (y - 2 ^ k)]] W fun e w' => e = .returned (.int .i64 r) ∧ Below W.heap.size W w') :
    Calls Try.prog 32 #[.int .i64 (k + 1 : Nat), .agg #[.int .i64 x, .int .i64 y]] w fun e w' => e = .returned (.int .i64 (2 * 4 ^ k + r : Nat)) ∧ Below w.heap.size w w' := by
  obtain ⟨hpow, hpos, hsq, h4⟩ := pow_facts k hk
  have h4b := pow4_facts k hk
  have hri : (r : Int) < 4 ^ k := by
    have e : ((4 : Int) ^ k) = ((4 ^ k : Nat) : Int) := by simp
    rw [e]; exact Int.ofNat_lt.2 hr
  have HE : Sd ((((2 * 4 ^ k + r : Nat) : Nat) : Int) = 2 * 4 ^ k + r) := ⟨by push_cast; rfl⟩
  have HC := Sd.mk C
  clear C hr
  go_enter Try.func32, Try.ntmps32
  go_wp2_with (go_at_call 32; refine (HC.out _).mono ?_; rintro e w1 ⟨rfl, hb⟩)
  go_ret
  exact ⟨ret_int (by first | (rw [HE.out]; done) | (rw [HE.out]; simp; done) | (rw [HE.out]; omega)), ((Below.refl _ _).alloc (Nat.le_refl _) _).trans (Below.mono ‹_› (by simp))⟩

set_option maxHeartbeats 1000000 in
theorem place_step3 (k : Nat) (w : World) (hk : k ≤ 15) (x y : Int) (hx0 : 0 ≤ x) (hx : x < 2 * 2 ^ k) (hy0 : 0 ≤ y) (_ : y < 2 * 2 ^ k) (c1 : 2 ^ k ≤ x) (c2 : y < 2 ^ k) (r : Nat) (hr : r < 4 ^ k)
    (C : ∀ W, Calls Try.prog 32 #[.int .i64 k, .agg #[.int .i64 (2 ^ k - 1 - y), .int .i64 (2 * 2 ^ k - 1 - x)]] W fun e w' => e = .returned (.int .i64 r) ∧ Below W.heap.size W w') :
    Calls Try.prog 32 #[.int .i64 (k + 1 : Nat), .agg #[.int .i64 x, .int .i64 y]] w fun e w' => e = .returned (.int .i64 (3 * 4 ^ k + r : Nat)) ∧ Below w.heap.size w w' := by
  obtain ⟨hpow, hpos, hsq, h4⟩ := pow_facts k hk
  have h4b := pow4_facts k hk
  have hri : (r : Int) < 4 ^ k := by
    have e : ((4 : Int) ^ k) = ((4 ^ k : Nat) : Int) := by simp
    rw [e]; exact Int.ofNat_lt.2 hr
  have HE : Sd ((((3 * 4 ^ k + r : Nat) : Nat) : Int) = 3 * 4 ^ k + r) := ⟨by push_cast; rfl⟩
  have HC := Sd.mk C
  clear C hr
  go_enter Try.func32, Try.ntmps32
  go_wp2_with (go_at_call 32; refine (HC.out _).mono ?_; rintro e w1 ⟨rfl, hb⟩)
  go_ret
  exact ⟨ret_int (by first | (rw [HE.out]; done) | (rw [HE.out]; simp; done) | (rw [HE.out]; omega)), ((Below.refl _ _).alloc (Nat.le_refl _) _).trans (Below.mono ‹_› (by simp))⟩

theorem place_any (k : Nat) : ∀ (x y : Int) (w : World), k ≤ 16 → 0 ≤ x → x < 2 ^ k → 0 ≤ y → y < 2 ^ k →
    Calls Try.prog 32 #[.int .i64 k, .agg #[.int .i64 x, .int .i64 y]] w fun e w' => e = .returned (.int .i64 (hpl k x y : Nat)) ∧ Below w.heap.size w w' := by
  induction k with
  | zero => intro x y w _ _ _ _ _; exact place_zero x y w
  | succ k ih =>
    intro x y w hk hx hx' hy hy'
    rw [pow2_succ] at hx' hy'
    have hk' : k ≤ 15 := by omega
    by_cases c1 : x < 2 ^ k
    · by_cases c2 : y < 2 ^ k
      · have e : hpl (k + 1) x y = 0 * 4 ^ k + hpl k y x := by simp only [hpl]; rw [if_pos c1, if_pos c2]; omega
        rw [e]
        exact place_step0 k w hk' x y hx hx' hy hy' c1 c2 _ (hpl_bd k y x hy c2 hx c1) (fun W => ih y x W (by omega) hy c2 hx c1)
      · have e : hpl (k + 1) x y = 1 * 4 ^ k + hpl k x (y - 2 ^ k) := by simp only [hpl]; rw [if_pos c1, if_neg c2]; omega
        rw [e]
        exact place_step1 k w hk' x y hx hx' hy hy' c1 (by omega) _ (hpl_bd k x (y - 2 ^ k) hx c1 (by omega) (by omega)) (fun W => ih x (y - 2 ^ k) W (by omega) hx c1 (by omega) (by omega))
    · by_cases c2 : 2 ^ k ≤ y
      · have e : hpl (k + 1) x y = 2 * 4 ^ k + hpl k (x - 2 ^ k) (y - 2 ^ k) := by simp only [hpl]; rw [if_neg c1, if_pos c2]
        rw [e]
        exact place_step2 k w hk' x y hx hx' hy hy' (by omega) c2 _ (hpl_bd k _ _ (by omega) (by omega) (by omega) (by omega)) (fun W => ih (x - 2 ^ k) (y - 2 ^ k) W (by omega) (by omega) (by omega) (by omega) (by omega))
      · have e : hpl (k + 1) x y = 3 * 4 ^ k + hpl k (2 ^ k - 1 - y) (2 * 2 ^ k - 1 - x) := by simp only [hpl]; rw [if_neg c1, if_neg c2]
        rw [e]
        exact place_step3 k w hk' x y hx hx' hy hy' (by omega) (by omega) _ (hpl_bd k _ _ (by omega) (by omega) (by omega) (by omega)) (fun W => ih (2 ^ k - 1 - y) (2 * 2 ^ k - 1 - x) W (by omega) (by omega) (by omega) (by omega) (by omega))

/-! ### At and Place of the reference -/
theorem pow4_i (n : Int) (h0 : 1 ≤ n) : (2 : Int) ^ (2 * n).toNat = ((4 ^ n.toNat : Nat) : Int) := by
  have e : (2 * n).toNat = 2 * n.toNat := by omega
  rw [e]
  push_cast
  rw [Int.pow_mul]; rfl
set_option maxHeartbeats 1000000 in
set_option maxRecDepth 100000 in
theorem rAt_order (n p : Int) (h : n < 1 ∨ 16 < n) (w : World) :
    Calls Try.prog 11 #[.int .i64 n, .int .i64 p] w fun e w' => e = .returned (.tuple #[.agg #[.int .i64 0, .int .i64 0], .int .i64 130]) ∧ Below w.heap.size w w' := by
  rcases h with h | h
  · go_enter Try.func11, Try.ntmps11
    go_wp2
    exact bodyPost_ret (v := .tuple #[.agg #[.int .i64 0, .int .i64 0], .int .i64 130]) (by simp [results, Try.results11, go_sem]) rfl ⟨rfl, (Below.refl _ _).alloc (Nat.le_refl _) _⟩
  · have h' : 1 ≤ n := by omega
    go_enter Try.func11, Try.ntmps11
    go_wp2
    exact bodyPost_ret (v := .tuple #[.agg #[.int .i64 0, .int .i64 0], .int .i64 130]) (by simp [results, Try.results11, go_sem]) rfl ⟨rfl, (Below.refl _ _).alloc (Nat.le_refl _) _⟩
theorem pow4_bd (n : Int) (h0 : 1 ≤ n) (h1 : n ≤ 16) : wrap64 ((2 : Int) ^ (2 * n).toNat) = (2 : Int) ^ (2 * n).toNat ∧ (0 : Int) < (2 : Int) ^ (2 * n).toNat ∧ (2 : Int) ^ (2 * n).toNat ≤ 4294967296 := by
  rw [pow4_i n h0]
  have h : 4 ^ n.toNat ≤ 4 ^ 16 := Nat.pow_le_pow_right (by omega) (by omega)
  have e2 : (4 : Nat) ^ 16 = 4294967296 := rfl
  have h3 := pow4_pos n.toNat
  rw [e2] at h
  generalize 4 ^ n.toNat = t at *
  unfold wrap64
  omega
set_option maxHeartbeats 1000000 in
set_option maxRecDepth 100000 in
theorem rAt_point (n p : Int) (h0 : 1 ≤ n) (h1 : n ≤ 16) (h : p < 0 ∨ ((4 ^ n.toNat : Nat) : Int) ≤ p) (w : World) :
    Calls Try.prog 11 #[.int .i64 n, .int .i64 p] w fun e w' => e = .returned (.tuple #[.agg #[.int .i64 0, .int .i64 0], .int .i64 131]) ∧ Below w.heap.size w w' := by
  obtain ⟨b1, b2, b3⟩ := pow4_bd n h0 h1
  rw [← pow4_i n h0] at h
  rcases h with h | h
  · clear b1 b2 b3
    go_enter Try.func11, Try.ntmps11
    go_wp2
    exact bodyPost_ret (v := .tuple #[.agg #[.int .i64 0, .int .i64 0], .int .i64 131]) (by simp [results, Try.results11, go_sem]) rfl ⟨rfl, (Below.refl _ _).alloc (Nat.le_refl _) _⟩
  · have h' : 0 ≤ p := by omega
    go_enter Try.func11, Try.ntmps11
    go_wp2
    exact bodyPost_ret (v := .tuple #[.agg #[.int .i64 0, .int .i64 0], .int .i64 131]) (by simp [results, Try.results11, go_sem]) rfl ⟨rfl, (Below.refl _ _).alloc (Nat.le_refl _) _⟩
set_option maxHeartbeats 1000000 in
set_option maxRecDepth 100000 in
theorem rAt_ok (n p : Int) (h0 : 1 ≤ n) (h1 : n ≤ 16) (hp : 0 ≤ p) (h : p < ((4 ^ n.toNat : Nat) : Int)) (w : World) :
    Calls Try.prog 11 #[.int .i64 n, .int .i64 p] w fun e w' => e = .returned (.tuple #[ptV (hat n.toNat p.toNat), .int .i64 0]) ∧ Below w.heap.size w w' := by
  obtain ⟨b1, b2, b3⟩ := pow4_bd n h0 h1
  have C : ∀ W, Calls Try.prog 29 #[.int .i64 n, .int .i64 p] W fun e w' => e = .returned (ptV (hat n.toNat p.toNat)) ∧ Below W.heap.size W w' := by
    intro W
    have := at_any n.toNat p.toNat W (by omega) (by omega)
    rw [show ((n.toNat : Nat) : Int) = n from by omega, show ((p.toNat : Nat) : Int) = p from by omega] at this
    exact this
  rw [← pow4_i n h0] at h
  obtain ⟨x, y, he⟩ : ∃ x y, hat n.toNat p.toNat = (x, y) := ⟨_, _, rfl⟩
  rw [he] at C ⊢
  have HC := Sd.mk C
  clear C he
  unfold ptV at *
  go_enter Try.func11, Try.ntmps11
  go_wp2_with (go_at_call 29; refine (HC.out _).mono ?_; rintro e w1 ⟨rfl, hb⟩; obtain ⟨hc, hf⟩ := bcell hb; have hz : w.heap.size < w1.heap.size := by (have := hb.size; simp at this; omega))
  refine bodyPost_ret (v := .tuple #[.agg #[.int .i64 x, .int .i64 y], .int .i64 0]) (by simp [results, Try.results11, go_sem, hc]) rfl ⟨rfl, ?_⟩
  exact (((((Below.refl _ _).alloc (Nat.le_refl _) _).trans (hb.mono (by simp))).setCell (p := ⟨w.heap.size, 0, none⟩) (Nat.le_refl _) _).setCell (p := ⟨w.heap.size, 1, none⟩) (Nat.le_refl _) _)

end Go.Proofs.Ytdhkhdfenalagaa
