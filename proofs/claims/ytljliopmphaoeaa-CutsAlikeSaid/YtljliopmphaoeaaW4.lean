/- The ways to cut. -/
import Derived.Test.YtljliopmphaoeaaW3
namespace Go.Proofs.Ytljliopmphaoeaa
open Go Go.RowKit Go.Proofs.Ytljliopmphaoeaa.Q

/-- a variable of its own block, which is neither an engine nor a list of nodes -/
def One (W : World) (a : Nat) (v : Value) : Prop := ∃ T, Blk W a #[v] T ∧ T ≠ 90 ∧ T ≠ 85
theorem One.below {W W' : World} {a : Nat} {v : Value} (h : One W a v) (hb : Below W.heap.size W W') : One W' a v := by
  obtain ⟨T, h1, h2⟩ := h
  exact ⟨T, h1.below hb h1.lt, h2⟩
theorem One.cell {W : World} {a : Nat} {v : Value} (h : One W a v) : W.cell? ⟨a, 0, none⟩ = some v := by
  obtain ⟨T, h1, h2⟩ := h
  exact h1.cell (i := 0) rfl
set_option maxHeartbeats 1000000 in
set_option maxRecDepth 100000 in
theorem runs_any (f g : FuncId) (w : World) : Calls Try.prog 68 #[.func (.func f) #[] #[], .func (.func g) #[] #[]] w fun e w' => e = .returned (.agg #[.func (.func 91) #[] #[.pointer (some ⟨w.heap.size, 0, none⟩), .pointer (some ⟨w.heap.size + 1, 0, none⟩)]]) ∧
    One w' w.heap.size (.func (.func f) #[] #[]) ∧ One w' (w.heap.size + 1) (.func (.func g) #[] #[]) ∧ w.heap.size + 1 < w'.heap.size ∧ Below w.heap.size w w' := by
  have hsf := fun (a : Addr) (c : Array Value) (w : World) => run_store Try.prog w a (.func (.func 91) #[] c) .plain rfl
  go_enter Try.func68, Try.ntmps68
  go_wp2
  refine bodyPost_ret (v := .agg #[.func (.func 91) #[] #[.pointer (some ⟨w.heap.size, 0, none⟩), .pointer (some ⟨w.heap.size + 1, 0, none⟩)]]) (by simp [results, Try.results68, go_sem, *]) rfl ⟨rfl, ?_, ?_, ?_, ?_⟩
  · exact ⟨_, ((Blk.new w _ _).alloc _).alloc _, by decide, by decide⟩
  · exact ⟨_, (blkN (X := w.alloc _) (N := w.heap.size + 1) (by simp) _ _).alloc _, by decide, by decide⟩
  · simp
  · exact below_alloc (below_alloc (below_alloc (Below.refl _ _) _) _) _
set_option maxHeartbeats 1000000 in
set_option maxRecDepth 100000 in
theorem spans_any (f g : FuncId) (w : World) : Calls Try.prog 73 #[.func (.func f) #[] #[], .func (.func g) #[] #[]] w fun e w' => e = .returned (.agg #[.func (.func 93) #[] #[.pointer (some ⟨w.heap.size, 0, none⟩), .pointer (some ⟨w.heap.size + 1, 0, none⟩)]]) ∧
    One w' w.heap.size (.func (.func f) #[] #[]) ∧ One w' (w.heap.size + 1) (.func (.func g) #[] #[]) ∧ w.heap.size + 1 < w'.heap.size ∧ Below w.heap.size w w' := by
  have hsf := fun (a : Addr) (c : Array Value) (w : World) => run_store Try.prog w a (.func (.func 93) #[] c) .plain rfl
  go_enter Try.func73, Try.ntmps73
  go_wp2
  refine bodyPost_ret (v := .agg #[.func (.func 93) #[] #[.pointer (some ⟨w.heap.size, 0, none⟩), .pointer (some ⟨w.heap.size + 1, 0, none⟩)]]) (by simp [results, Try.results73, go_sem, *]) rfl ⟨rfl, ?_, ?_, ?_, ?_⟩
  · exact ⟨_, ((Blk.new w _ _).alloc _).alloc _, by decide, by decide⟩
  · exact ⟨_, (blkN (X := w.alloc _) (N := w.heap.size + 1) (by simp) _ _).alloc _, by decide, by decide⟩
  · simp
  · exact below_alloc (below_alloc (below_alloc (Below.refl _ _) _) _) _
/-- a way to cut by an address, by a port, in memory -/
def WayAt (W : World) (v : Value) (fn f g : FuncId) : Prop := ∃ a b : Nat, v = .func (.func fn) #[] #[.pointer (some ⟨a, 0, none⟩), .pointer (some ⟨b, 0, none⟩)] ∧ One W a (.func (.func f) #[] #[]) ∧ One W b (.func (.func g) #[] #[])
theorem WayAt.below {W W' : World} {v : Value} {fn f g : FuncId} (h : WayAt W v fn f g) (hb : Below W.heap.size W W') : WayAt W' v fn f g := by
  obtain ⟨a, b, h1, h2, h3⟩ := h
  exact ⟨a, b, h1, h2.below hb, h3.below hb⟩
/-- the five ways -/
def WaysAt (W : World) (S : Nat) : Prop := ∃ v0 v1 v2 v3, Blk W S #[v0, v1, v2, v3, .func (.func 78) #[] #[]] 138 ∧ WayAt W v0 91 69 70 ∧ WayAt W v1 91 71 72 ∧
  WayAt W v2 93 74 75 ∧ WayAt W v3 93 76 77
set_option maxHeartbeats 1000000 in
set_option maxRecDepth 100000 in
theorem halves_any (w : World) : Calls Try.prog 49 #[] w fun e w' => ∃ S, e = .returned (.slice (some ⟨S, 0, none⟩) 5 5) ∧ w.heap.size ≤ S ∧ WaysAt w' S ∧ Below w.heap.size w w' := by
  have R := Sd.mk runs_any
  have P := Sd.mk spans_any
  go_enter Try.func49, Try.ntmps49
  go_wp2_with fail
  refine (R.out _ _ _).mono ?_
  rintro e w1 ⟨rfl, a1, a2, a3, hb⟩
  have HA1 : Sd (WayAt w1 (.func (.func 91) #[] #[.pointer (some ⟨w.heap.size, 0, none⟩), .pointer (some ⟨w.heap.size + 1, 0, none⟩)]) 91 69 70) := ⟨⟨_, _, rfl, a1, a2⟩⟩
  have HB1 := Sd.mk hb
  clear a1 a2 a3 hb
  go_wp2_with fail
  refine (R.out _ _ _).mono ?_
  rintro e w2 ⟨rfl, a1, a2, a3, hb⟩
  have HA2 : Sd (WayAt w2 (.func (.func 91) #[] #[.pointer (some ⟨w1.heap.size, 0, none⟩), .pointer (some ⟨w1.heap.size + 1, 0, none⟩)]) 91 71 72) := ⟨⟨_, _, rfl, a1, a2⟩⟩
  have HB2 := Sd.mk hb
  clear a1 a2 a3 hb
  go_wp2_with fail
  refine (P.out _ _ _).mono ?_
  rintro e w3 ⟨rfl, a1, a2, a3, hb⟩
  have HA3 : Sd (WayAt w3 (.func (.func 93) #[] #[.pointer (some ⟨w2.heap.size, 0, none⟩), .pointer (some ⟨w2.heap.size + 1, 0, none⟩)]) 93 74 75) := ⟨⟨_, _, rfl, a1, a2⟩⟩
  have HB3 := Sd.mk hb
  clear a1 a2 a3 hb
  go_wp2_with fail
  refine (P.out _ _ _).mono ?_
  rintro e w4 ⟨rfl, a1, a2, a3, hb⟩
  have HA4 : Sd (WayAt w4 (.func (.func 93) #[] #[.pointer (some ⟨w3.heap.size, 0, none⟩), .pointer (some ⟨w3.heap.size + 1, 0, none⟩)]) 93 76 77) := ⟨⟨_, _, rfl, a1, a2⟩⟩
  have HB4 := Sd.mk hb
  clear a1 a2 a3 hb
  go_wp2
  go_ret
  have b5 : ∀ o, Below w4.heap.size w4 (w4.alloc o) := fun o => below_alloc (Below.refl _ _) o
  exact ⟨_, rfl, Nat.le_trans HB1.out.size (Nat.le_trans HB2.out.size (Nat.le_trans HB3.out.size HB4.out.size)),
    ⟨_, _, _, _, Blk.new _ _ _, (((HA1.out.below HB2.out).below HB3.out).below HB4.out).below (b5 _), ((HA2.out.below HB3.out).below HB4.out).below (b5 _), (HA3.out.below HB4.out).below (b5 _), HA4.out.below (b5 _)⟩,
    beyond (beyond (beyond (beyond HB1.out HB2.out) HB3.out) HB4.out) (b5 _)⟩
end Go.Proofs.Ytljliopmphaoeaa
