/- quintetkeep.Is and quintetkeep.Turn, at no error and at a Fault. -/
import Derived.Test.YtghlfpeifdikkaaDoorFaultIs
namespace Go.Proofs.YtghlfpeifdikkaaDoor
open Go.RowKit

/-- a fact that the walk does not use -/
structure Hd (p : Prop) : Prop where out : p

/-- errors.errorType is laid -/
def ET (w : World) : Prop := w.cell? ⟨0, 0, none⟩ = some (.iface 88 (.agg #[.pointer (some ⟨4, 29, none⟩)]))
theorem ET.lt {w : World} (h : ET w) : 0 < w.heap.size := by
  rcases Nat.lt_or_ge 0 w.heap.size with h1 | h1
  · exact h1
  · unfold ET World.cell? at h
    rw [Array.getElem?_eq_none h1] at h; simp at h
theorem ET.below {w w' : World} {L : Nat} (h : ET w) (hb : Below L w w') (hL : 0 < L) : ET w' := (hb.cell (p := ⟨0, 0, none⟩) hL).trans h
theorem ET.move {w w' : World} (h : ET w) (hb : Below w.heap.size w w') : ET w' := h.below hb h.lt

theorem as_fault (F t : Nat) (w : World) (hE : ET w) (ht : Blk w t #[.pointer none] 56) :
    Calls Tryd.prog 21 #[.iface 56 (.pointer (some ⟨F, 0, none⟩)), .iface 58 (.pointer (some ⟨t, 0, none⟩))] w fun e w' => e = .returned (.bool true) ∧ Blk w' t #[.pointer (some ⟨F, 0, none⟩)] 56 ∧ Below t w w' := by
  refine (as_hit ⟨F, 0, none⟩ ⟨t, 0, none⟩ (.pointer none) w hE (ht.cell rfl) (ht.frozen 0)).mono ?_
  rintro e w' ⟨rfl, rfl⟩
  have hl := ht.lt
  refine ⟨rfl, (((((ht.alloc _).alloc _).alloc _).alloc _).set 0 _), ?_⟩
  exact ((((((Below.refl t w).alloc (by omega) _).alloc (by simp; omega) _).alloc (by simp; omega) _).alloc (by simp; omega) _).setCell (p := ⟨t, 0, none⟩) (Nat.le_refl _) _)

set_option maxHeartbeats 1000000 in
theorem keepIs_ok (l c : Int) (w : World) : Calls Tryd.prog 12 #[.nilIface, .int .i64 0, .int .i64 l, .int .i64 c] w fun e w' => e = .returned (.bool true) ∧ w = w' := by
  go_enter Tryd.func12, Tryd.ntmps12
  go_wp2
  go_ret
  exact ⟨rfl, rfl⟩

set_option maxHeartbeats 2000000 in
theorem keepIs_hit (F : Nat) (k l c : Int) (w : World) (hk : k ≠ 0) (hE : ET w) (hF : Blk w F #[.int .i64 k, .int .i64 l, .int .i64 c] 59) :
    Calls Tryd.prog 12 #[.iface 56 (.pointer (some ⟨F, 0, none⟩)), .int .i64 k, .int .i64 l, .int .i64 c] w fun e w' => e = .returned (.bool true) ∧ Below w.heap.size w w' := by
  have ek : (k == 0) = false := by simp [hk]
  have HE := Hd.mk hE
  have HF := Hd.mk hF
  clear hE hF hk
  go_enter Tryd.func12, Tryd.ntmps12
  go_wp2_with fail
  refine (as_fault F w.heap.size _ (HE.out.move ((Below.refl _ w).alloc (Nat.le_refl _) _)) (Blk.new _ _ _)).mono ?_
  rintro e w1 ⟨rfl, ht, hb⟩
  have hb1 : Below w.heap.size w w1 := ((Below.refl _ w).alloc (Nat.le_refl _) _).trans hb
  have hF1 := HF.out.below hb1 HF.out.lt
  have HB := Hd.mk hb1
  have t0 := ht.cell (i := 0) rfl
  have f0 := hF1.cell (i := 0) rfl
  have f1 := hF1.cell (i := 1) rfl
  have f2 := hF1.cell (i := 2) rfl
  clear ht hb hb1 hF1
  go_wp2_with (go_at_call 22; refine (is_code F k _ (by assumption)).mono ?_; rintro e w2 ⟨rfl, rfl⟩)
  go_ret
  exact ⟨rfl, HB.out⟩

set_option maxHeartbeats 1000000 in
theorem keepTurn_ok (w : World) : Calls Tryd.prog 13 #[.nilIface] w fun e w' => e = .returned (.tuple #[]) ∧ Below w.heap.size w w' := by
  go_enter Tryd.func13, Tryd.ntmps13
  go_wp2
  refine bodyPost_ret (v := .tuple #[]) (by simp [results, Tryd.results13, go_sem]) rfl ⟨rfl, (Below.refl _ _).alloc (Nat.le_refl _) _⟩
set_option maxHeartbeats 2000000 in
theorem keepTurn_hit (F : Nat) (k l c : Int) (w : World) (hE : ET w) (hF : Blk w F #[.int .i64 k, .int .i64 l, .int .i64 c] 59) :
    Calls Tryd.prog 13 #[.iface 56 (.pointer (some ⟨F, 0, none⟩))] w fun e w' => e = .returned (.tuple #[]) ∧ (∀ B, B < w.heap.size → B ≠ F → w'.heap[B]? = w.heap[B]?) ∧ ∀ L, L ≤ F → Below L w w' := by
  have HE := Hd.mk hE
  have HF := Hd.mk hF
  clear hE hF
  go_enter Tryd.func13, Tryd.ntmps13
  go_wp2_with fail
  refine (as_fault F w.heap.size _ (HE.out.move ((Below.refl _ w).alloc (Nat.le_refl _) _)) (Blk.new _ _ _)).mono ?_
  rintro e w1 ⟨rfl, ht, hb⟩
  have hb1 : Below w.heap.size w w1 := ((Below.refl _ w).alloc (Nat.le_refl _) _).trans hb
  have hF1 := HF.out.below hb1 HF.out.lt
  have HB := Hd.mk hb1
  have hlt := HF.out.lt
  have t0 := ht.cell (i := 0) rfl
  have f0 := hF1.cell (i := 0) rfl
  have f1 := hF1.cell (i := 1) rfl
  have f2 := hF1.cell (i := 2) rfl
  have ff := hF1.frozen
  clear ht hb hb1 hF1
  go_wp2
  go_end0
  refine ⟨rfl, fun B hB hne => ?_, fun L hL => ?_⟩
  · rw [Below.heap_setCell _ _ _ _ hne, Below.heap_setCell _ _ _ _ hne, Below.heap_setCell _ _ _ _ hne]
    exact HB.out.block B hB
  · exact (((HB.out.mono (by omega)).setCell (p := ⟨F, 0, none⟩) hL _).setCell (p := ⟨F, 1, none⟩) hL _).setCell (p := ⟨F, 2, none⟩) hL _
end Go.Proofs.YtghlfpeifdikkaaDoor
