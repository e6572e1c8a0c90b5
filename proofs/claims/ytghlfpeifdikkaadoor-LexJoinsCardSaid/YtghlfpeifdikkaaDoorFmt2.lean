/- A number's text, whatever the library's table of powers holds. -/
import Derived.Test.YtghlfpeifdikkaaDoorFmt
namespace Go.Proofs.YtghlfpeifdikkaaDoor
open Go Go.RowKit Go.Sort Go.Lib Go.Shelf

theorem ndAny_facts (z : Nat → Int) (u : Nat) (h1 : 100 ≤ u) (h2 : u < 100000) : 2 ≤ ndAny z u ∧ ndAny z u ≤ 6 ∧ (u < 10 ^ ndAny z u ∨ ndAny z u ≤ 4) := by
  obtain ⟨hn, _⟩ := Lib.numDigits_eq u (by omega) (by omega)
  have hlt := Lib.lt_pow_nDigits u
  have hb : Lib.bitLen u ≤ 17 := Lib.bitLen_le u 17 (by omega) (by omega)
  have hl : Lib.l10 (Lib.bitLen u) ≤ 5 := by unfold Lib.l10; omega
  have hnd : ndAny z u = Lib.l10 (Lib.bitLen u) ∨ ndAny z u = Lib.l10 (Lib.bitLen u) + 1 := by unfold ndAny; split <;> simp
  generalize Lib.l10 (Lib.bitLen u) = q at hn hl hnd
  generalize ndAny z u = nd at hnd
  generalize Lib.nDigits u = D at hn hlt
  have hq : q = 0 ∨ q = 1 ∨ q = 2 ∨ q = 3 ∨ q = 4 ∨ q = 5 := by omega
  rcases hq with rfl | rfl | rfl | rfl | rfl | rfl <;> (split at hn <;> subst hn <;> rcases hnd with rfl | rfl <;> simp at * <;> omega)
set_option maxHeartbeats 4000000 in
set_option maxRecDepth 100000 in
theorem formatInt_any (z : Nat → Int) (u : Nat) (h1 : 100 ≤ u) (h2 : u < 100000) : ∃ X : ByteArray, X.size ≤ 6 ∧ ∀ w : World, 1 < w.heap.size → TabAny w z → Calls Tryd.prog 64 #[.int .i64 u, .int .i64 10] w fun e w' => e = .returned (.string X) ∧ Below w.heap.size w w' := by
  obtain ⟨n1, n2, n3⟩ := ndAny_facts z u h1 h2
  obtain ⟨bs, hbs, hfb⟩ := fb_any (ndAny z u) u n1 n2 (by omega) n3
  refine ⟨⟨bs.toArray⟩, by simp [ByteArray.size]; omega, fun w hg hz => ?_⟩
  have mixed := Go.Proofs.Tryd.lays129.mixed
  have hz2 : TabAny (w.alloc (.cells Lib.zeros24 118)) z := fun k hk => by rw [World.cell?_alloc_old _ _ _ (by simp only; omega)]; exact hz k hk
  have HN := Sd.mk (numDigits_any z u (by omega) (by omega) _ hz2)
  have HF := Sd.mk (hfb w 118)
  generalize ndAny z u = nd at *
  have hal : Tryd.prog.arrayLen 118 = 24 := by kernel_rfl
  have hsl1 : ∀ W, (Instr.sliceAt 118 (.pointer (some ⟨w.heap.size, 0, none⟩)) (some (.int .i64 1)) (some (.int .i64 (1 + (nd : Int)))) none).run Tryd.prog W = .ok (.slice (some ⟨w.heap.size, 1, none⟩) nd 23) W := fun W => by
    rw [run_sliceAt_array_lh W 118 ⟨w.heap.size, 0, none⟩ (by simp [Program.arrayLen, Program.elem, Tryd.underlying118]) .i64 .i64 1 (1 + (nd : Int)) (by omega) (by omega) (by rw [hal]; omega)]
    go_simp
    omega
  clear hal hz hz2 hfb
  go_enter Tryd.func64, Tryd.ntmps64
  go_wp2_with fail
  refine HN.out.mono ?_
  rintro e w' ⟨rfl, rfl⟩
  go_wp2_with fail
  refine HF.out.mono ?_
  rintro e w2 ⟨rfl, hcells, hb⟩
  have hcv : (convert 121 9 (.slice (some ⟨w.heap.size, 1, none⟩) nd 23)).run Tryd.prog w2 = .ok (.string ⟨bs.toArray⟩) w2 := by
    have h := run_convert_bytes_back (P := Tryd.prog) w2 121 9 5 ⟨w.heap.size, 1, none⟩ 23 bs Tryd.underlying121 Tryd.underlying5 Tryd.underlying9 (fun j hj => by rw [Lib.add_plain]; exact hcells j hj)
    rw [hbs] at h
    exact h
  clear hcells hbs
  go_wp2
  go_ret
  exact ⟨rfl, hb⟩
theorem dec_size (n : Nat) (h : n < 100) : (⟨(Lib.decDigits n).toArray⟩ : ByteArray).size ≤ 6 := by
  show (Lib.decDigits n).toArray.size ≤ 6
  rw [List.size_toArray]
  unfold Lib.decDigits
  split
  · simp
  · unfold Lib.decDigits
    rw [dif_pos (by omega)]
    simp
set_option maxHeartbeats 1000000 in
theorem itoa_any (z : Nat → Int) (n : Nat) (h2 : n < 100000) : ∃ X : ByteArray, X.size ≤ 6 ∧ ∀ w : World, 1 < w.heap.size → TabAny w z → Calls Tryd.prog 62 #[.int .i64 n] w fun e w' => e = .returned (.string X) ∧ Below w.heap.size w w' := by
  rcases Nat.lt_or_ge n 100 with h | h
  · exact ⟨_, dec_size n h, fun w _ _ => (Go.Proofs.Tryd.strconv_Itoa_small n h w).mono fun e w' ⟨he, hw⟩ => ⟨he, by rw [hw]; exact Below.refl _ _⟩⟩
  · obtain ⟨X, hX0, hX⟩ := formatInt_any z n h h2
    refine ⟨X, hX0, fun w hg hz => ?_⟩
    have H := Sd.mk (hX w hg hz)
    clear hX hz
    have H2 : Sd (Calls Tryd.prog 63 #[.int .i64 n] w fun e w' => e = .returned (.string X) ∧ Below w.heap.size w w') := by
      refine ⟨?_⟩
      go_enter Tryd.func63, Tryd.ntmps63
      go_wp2_with fail
      refine H.out.mono ?_
      rintro e w' ⟨rfl, hb⟩
      go_wp2
      go_ret
      exact ⟨rfl, hb⟩
    go_enter Tryd.func62, Tryd.ntmps62
    go_wp2_with fail
    refine H2.out.mono ?_
    rintro e w' ⟨rfl, hb⟩
    go_wp2
    go_ret
    exact ⟨rfl, hb⟩
theorem TabAny.below {w w' : World} {z : Nat → Int} {L : Nat} (h : TabAny w z) (hb : Below L w w') (hL : 1 < L) : TabAny w' z := fun k hk => (hb.cell (p := ⟨1, k, none⟩) hL).trans (h k hk)
end Go.Proofs.YtghlfpeifdikkaaDoor
