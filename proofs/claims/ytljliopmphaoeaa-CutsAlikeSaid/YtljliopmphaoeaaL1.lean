/- The reference of a configuration, and what may be of steps and sizes. -/
import Derived.Test.YtljliopmphaoeaaA3
namespace Go.Proofs.Ytljliopmphaoeaa
open Go Go.RowKit Go.Proofs.Ytljliopmphaoeaa.Q
def Cfg.one (c : Cfg) : Bool := btw c.max 1 64 && btw c.dflt 1 4
def Cfg.two (c : Cfg) : Bool := btw c.prune 0 1048576 && btw c.grid 0 1048576 && btw c.tuple 0 1048576
def Cfg.rest (c : Cfg) : Bool := btw c.binth 1 16 && btw c.depth 0 10
theorem Cfg.ok_parts (c : Cfg) : c.ok = (c.one && c.two && c.rest) := by
  unfold Cfg.ok Cfg.one Cfg.two Cfg.rest
  cases btw c.max 1 64 <;> cases btw c.dflt 1 4 <;> cases btw c.prune 0 1048576 <;> cases btw c.grid 0 1048576 <;> cases btw c.tuple 0 1048576 <;> cases btw c.binth 1 16 <;> cases btw c.depth 0 10 <;> rfl
set_option maxHeartbeats 2000000 in
set_option maxRecDepth 100000 in
theorem refCheck_any (c : Cfg) (w : World) : Calls Try.prog 9 #[.agg #[.int .i64 c.max, .int .i64 c.dflt, .int .i64 c.prune, .int .i64 c.grid, .int .i64 c.tuple, .int .i64 c.binth, .int .i64 c.depth]] w fun e w' => e = .returned (.int .i64 c.ck) ∧ Below w.heap.size w w' := by
  obtain ⟨M, hM⟩ : ∃ M, w.alloc (.cells #[.int .i64 c.max, .int .i64 c.dflt, .int .i64 c.prune, .int .i64 c.grid, .int .i64 c.tuple, .int .i64 c.binth, .int .i64 c.depth] 24) = M := ⟨_, rfl⟩
  have hbM : Below w.heap.size w M := by rw [← hM]; exact below_alloc (Below.refl _ _) _
  have hcM : Blk M w.heap.size #[.int .i64 c.max, .int .i64 c.dflt, .int .i64 c.prune, .int .i64 c.grid, .int .i64 c.tuple, .int .i64 c.binth, .int .i64 c.depth] 24 := by rw [← hM]; exact Blk.new _ _ _
  obtain ⟨c0, c1, c2, c3, c4, c5, c6⟩ := show M.cell? ⟨w.heap.size, 0, none⟩ = some (.int .i64 c.max) ∧ M.cell? ⟨w.heap.size, 1, none⟩ = some (.int .i64 c.dflt) ∧ M.cell? ⟨w.heap.size, 2, none⟩ = some (.int .i64 c.prune) ∧ M.cell? ⟨w.heap.size, 3, none⟩ = some (.int .i64 c.grid) ∧ M.cell? ⟨w.heap.size, 4, none⟩ = some (.int .i64 c.tuple) ∧ M.cell? ⟨w.heap.size, 5, none⟩ = some (.int .i64 c.binth) ∧ M.cell? ⟨w.heap.size, 6, none⟩ = some (.int .i64 c.depth) from ⟨hcM.cell (i := 0) rfl, hcM.cell (i := 1) rfl, hcM.cell (i := 2) rfl, hcM.cell (i := 3) rfl, hcM.cell (i := 4) rfl, hcM.cell (i := 5) rfl, hcM.cell (i := 6) rfl⟩
  have HB := Sd.mk hbM
  have HM := Sd.mk hM
  have HP := Sd.mk c.ok_parts
  clear hbM hcM hM
  go_enter Try.func9, Try.ntmps9
  go_upto_region 1 with fail
  rw [HM.out]
  go_cut [3] (fun s3 wx => s3 = .bool c.one ∧ Sd (wx = M))
  case first =>
    by_cases h1 : 1 ≤ c.max
    · by_cases h2 : c.max ≤ 64
      · by_cases h3 : 1 ≤ c.dflt
        · by_cases h4 : c.dflt ≤ 4
          · have H : Sd (c.one = true) := ⟨by unfold Cfg.one btw; simp [h1, h2, h3, h4]⟩
            go_wp2_with fail
            go_meet
            exact ⟨by rw [H.out], ⟨rfl⟩⟩
          · have H : Sd (c.one = false) := ⟨by unfold Cfg.one btw; simp [h4]⟩
            go_wp2_with fail
            go_meet
            exact ⟨by rw [H.out], ⟨rfl⟩⟩
        · have H : Sd (c.one = false) := ⟨by unfold Cfg.one btw; simp [h3]⟩
          go_wp2_with fail
          go_meet
          exact ⟨by rw [H.out], ⟨rfl⟩⟩
      · have H : Sd (c.one = false) := ⟨by unfold Cfg.one btw; simp [h2]⟩
        go_wp2_with fail
        go_meet
        exact ⟨by rw [H.out], ⟨rfl⟩⟩
    · have H : Sd (c.one = false) := ⟨by unfold Cfg.one btw; simp [h1]⟩
      go_wp2_with fail
      go_meet
      exact ⟨by rw [H.out], ⟨rfl⟩⟩
  case rest =>
    obtain ⟨rfl, hw⟩ := hcut
    have hw1 := hw.out
    subst hw1
    clear hw
    go_upto_region 2 with fail
    go_cut [4] (fun s4 wx => s4 = .bool c.two ∧ Sd (wx = wc))
    case first =>
      by_cases h1 : 0 ≤ c.prune
      · by_cases h2 : c.prune ≤ 1048576
        · by_cases h3 : 0 ≤ c.grid
          · by_cases h4 : c.grid ≤ 1048576
            · by_cases h5 : 0 ≤ c.tuple
              · by_cases h6 : c.tuple ≤ 1048576
                · have H : Sd (c.two = true) := ⟨by unfold Cfg.two btw; simp [h1, h2, h3, h4, h5, h6]⟩
                  go_wp2_with fail
                  go_meet
                  exact ⟨by rw [H.out], ⟨rfl⟩⟩
                · have H : Sd (c.two = false) := ⟨by unfold Cfg.two btw; simp [h6]⟩
                  go_wp2_with fail
                  go_meet
                  exact ⟨by rw [H.out], ⟨rfl⟩⟩
              · have H : Sd (c.two = false) := ⟨by unfold Cfg.two btw; simp [h5]⟩
                go_wp2_with fail
                go_meet
                exact ⟨by rw [H.out], ⟨rfl⟩⟩
            · have H : Sd (c.two = false) := ⟨by unfold Cfg.two btw; simp [h4]⟩
              go_wp2_with fail
              go_meet
              exact ⟨by rw [H.out], ⟨rfl⟩⟩
          · have H : Sd (c.two = false) := ⟨by unfold Cfg.two btw; simp [h3]⟩
            go_wp2_with fail
            go_meet
            exact ⟨by rw [H.out], ⟨rfl⟩⟩
        · have H : Sd (c.two = false) := ⟨by unfold Cfg.two btw; simp [h2]⟩
          go_wp2_with fail
          go_meet
          exact ⟨by rw [H.out], ⟨rfl⟩⟩
      · have H : Sd (c.two = false) := ⟨by unfold Cfg.two btw; simp [h1]⟩
        go_wp2_with fail
        go_meet
        exact ⟨by rw [H.out], ⟨rfl⟩⟩
    case rest =>
      obtain ⟨rfl, hw⟩ := hcut
      have hw1 := hw.out
      subst hw1
      clear hw
      cases b1 : c.one with
      | false =>
        have H : Sd (c.ck = 110) := ⟨by unfold Cfg.ck; rw [HP.out, b1]; rfl⟩
        go_wp2
        go_ret
        exact ⟨ret_int H.out.symm, HB.out⟩
      | true =>
        cases b2 : c.two with
        | false =>
          have H : Sd (c.ck = 110) := ⟨by unfold Cfg.ck; rw [HP.out, b1, b2]; rfl⟩
          go_wp2
          go_ret
          exact ⟨ret_int H.out.symm, HB.out⟩
        | true =>
          by_cases h1 : 1 ≤ c.binth
          · by_cases h2 : c.binth ≤ 16
            · by_cases h3 : 0 ≤ c.depth
              · by_cases h4 : c.depth ≤ 10
                · have H : Sd (c.ck = 0) := ⟨by unfold Cfg.ck; rw [HP.out, b1, b2]; unfold Cfg.rest btw; simp [h1, h2, h3, h4]⟩
                  go_wp2
                  go_ret
                  exact ⟨ret_int H.out.symm, HB.out⟩
                · have H : Sd (c.ck = 110) := ⟨by unfold Cfg.ck; rw [HP.out, b1, b2]; unfold Cfg.rest btw; simp [h4]⟩
                  go_wp2
                  go_ret
                  exact ⟨ret_int H.out.symm, HB.out⟩
              · have H : Sd (c.ck = 110) := ⟨by unfold Cfg.ck; rw [HP.out, b1, b2]; unfold Cfg.rest btw; simp [h3]⟩
                go_wp2
                go_ret
                exact ⟨ret_int H.out.symm, HB.out⟩
            · have H : Sd (c.ck = 110) := ⟨by unfold Cfg.ck; rw [HP.out, b1, b2]; unfold Cfg.rest btw; simp [h2]⟩
              go_wp2
              go_ret
              exact ⟨ret_int H.out.symm, HB.out⟩
          · have H : Sd (c.ck = 110) := ⟨by unfold Cfg.ck; rw [HP.out, b1, b2]; unfold Cfg.rest btw; simp [h1]⟩
            go_wp2
            go_ret
            exact ⟨ret_int H.out.symm, HB.out⟩
set_option maxHeartbeats 1000000 in
set_option maxRecDepth 100000 in
theorem power_any (n : Nat) (hn : n ≤ 40) (w : World) : Calls Try.prog 28 #[.int .i64 n] w fun e w' => e = .returned (.int .i64 ((2 ^ n : Nat) : Int)) ∧ w = w' := by
  go_enter Try.func28, Try.ntmps28
  go_wp2
  go_loopw [3, 4] (fun pv iv wr => ∃ (k : Nat) (p : Int), k ≤ n ∧ iv = .int .i64 k ∧ pv = .int .i64 p ∧ Sd (p = ((2 ^ k : Nat) : Int)) ∧ 1 ≤ p ∧ p ≤ 1099511627776 ∧ Sd (wr = w)) (fun _ iv _ => n - (intOf iv).toNat)
  case atStart => exact ⟨0, 1, by omega, rfl, rfl, ⟨rfl⟩, by omega, by omega, ⟨rfl⟩⟩
  case round =>
    obtain ⟨k, p, hk, rfl, rfl, HP, hp1, hp2, HW⟩ := hrel
    have hw := HW.out
    subst hw
    by_cases hlt : k < n
    · have H2 : Sd (2 * p = ((2 ^ (k + 1) : Nat) : Int) ∧ 2 * p ≤ 1099511627776) := ⟨by
        have h1 := HP.out
        have h2 : 2 ^ (k + 1) ≤ 2 ^ 40 := Nat.pow_le_pow_right (by omega) (by omega)
        rw [Nat.pow_succ] at h2 ⊢
        have h3 : (2 : Nat) ^ 40 = 1099511627776 := by decide
        omega⟩
      go_wp2
      go_roundw
      case rel => exact ⟨k + 1, 2 * p, by omega, by go_num, rfl, ⟨H2.out.1⟩, by omega, H2.out.2, by first | exact ⟨rfl⟩ | exact ⟨trivial⟩⟩
      case measure => simp [intOf]; omega
    · have hkn : k = n := by omega
      have HQ : Sd (p = ((2 ^ n : Nat) : Int)) := ⟨by rw [← hkn]; exact HP.out⟩
      clear hkn
      go_wp2
      go_ret
      exact ⟨ret_int HQ.out, rfl⟩
end Go.Proofs.Ytljliopmphaoeaa
