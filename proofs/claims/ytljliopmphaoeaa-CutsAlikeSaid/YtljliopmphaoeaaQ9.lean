/- What Meet and Within of boxes give back. -/
import Derived.Test.YtljliopmphaoeaaQ8
namespace Go.Proofs.Ytljliopmphaoeaa
open Go Go.RowKit Go.Proofs.Ytljliopmphaoeaa.Q

theorem spnMeet_ex (a b : Spn) : ∃ l h : Nat, (a.meets b = true → l = max a.lo b.lo ∧ h = min a.hi b.hi) ∧ ∀ w, Calls Try.prog 88 #[.agg #[.int .u16 a.lo, .int .u16 a.hi], .agg #[.int .u16 b.lo, .int .u16 b.hi]] w fun e w' => e = .returned (.tuple #[.agg #[.int .u16 l, .int .u16 h], .bool (a.meets b)]) ∧ Below w.heap.size w w' := by
  cases hm : a.meets b with
  | true => exact ⟨_, _, fun _ => ⟨rfl, rfl⟩, fun w => spnMeet_t a b w hm⟩
  | false => exact ⟨0, 0, (fun h => by cases h), fun w => spnMeet_f a b w hm⟩
theorem mskMeet_ex (a b : Msk) (ha : a.Wf) (hb : b.Wf) : ∃ l h : Nat, (a.meets b = true → l = a.v ||| b.v ∧ h = a.c ||| b.c) ∧ ∀ w, Calls Try.prog 89 #[.agg #[.int .u8 a.v, .int .u8 a.c], .agg #[.int .u8 b.v, .int .u8 b.c]] w fun e w' => e = .returned (.tuple #[.agg #[.int .u8 l, .int .u8 h], .bool (a.meets b)]) ∧ Below w.heap.size w w' := by
  cases hm : a.meets b with
  | true => exact ⟨_, _, fun _ => ⟨rfl, rfl⟩, fun w => mskMeet_t a b ha hb w hm⟩
  | false => exact ⟨0, 0, (fun h => by cases h), fun w => mskMeet_f a b ha hb w hm⟩
/-- a box of noughts, as the walk reads it -/
def ZeroB (M W : World) (g : Nat) : Prop := M.heap.size ≤ g ∧ (W.cell? ⟨g, 0, none⟩ = some (.int .u32 Bx.zero.src.lo) ∧ W.cell? ⟨g, 1, none⟩ = some (.int .u32 Bx.zero.src.hi) ∧ W.cell? ⟨g, 2, none⟩ = some (.int .u32 Bx.zero.dst.lo) ∧ W.cell? ⟨g, 3, none⟩ = some (.int .u32 Bx.zero.dst.hi) ∧ W.cell? ⟨g, 4, none⟩ = some (.int .u16 Bx.zero.sp.lo) ∧ W.cell? ⟨g, 5, none⟩ = some (.int .u16 Bx.zero.sp.hi) ∧ W.cell? ⟨g, 6, none⟩ = some (.int .u16 Bx.zero.dp.lo) ∧ W.cell? ⟨g, 7, none⟩ = some (.int .u16 Bx.zero.dp.hi) ∧ W.cell? ⟨g, 8, none⟩ = some (.int .u8 Bx.zero.pr.v) ∧ W.cell? ⟨g, 9, none⟩ = some (.int .u8 Bx.zero.pr.c)) ∧ (∀ i, W.frozen? ⟨g, i, none⟩ = false) ∧ g < W.heap.size ∧ Blk W g #[.int .u32 Bx.zero.src.lo, .int .u32 Bx.zero.src.hi, .int .u32 Bx.zero.dst.lo, .int .u32 Bx.zero.dst.hi, .int .u16 Bx.zero.sp.lo, .int .u16 Bx.zero.sp.hi, .int .u16 Bx.zero.dp.lo, .int .u16 Bx.zero.dp.hi, .int .u8 Bx.zero.pr.v, .int .u8 Bx.zero.pr.c] 109
theorem zeroB {M W : World} {g : Nat} (hg : M.heap.size ≤ g) (h : Blk W g #[.int .u32 Bx.zero.src.lo, .int .u32 Bx.zero.src.hi, .int .u32 Bx.zero.dst.lo, .int .u32 Bx.zero.dst.hi, .int .u16 Bx.zero.sp.lo, .int .u16 Bx.zero.sp.hi, .int .u16 Bx.zero.dp.lo, .int .u16 Bx.zero.dp.hi, .int .u8 Bx.zero.pr.v, .int .u8 Bx.zero.pr.c] 109) : ZeroB M W g := by
  have k := h
  exact ⟨hg, ⟨k.cell (i := 0) rfl, k.cell (i := 1) rfl, k.cell (i := 2) rfl, k.cell (i := 3) rfl, k.cell (i := 4) rfl, k.cell (i := 5) rfl, k.cell (i := 6) rfl, k.cell (i := 7) rfl, k.cell (i := 8) rfl, k.cell (i := 9) rfl⟩, h.frozen, h.lt, h⟩
theorem heldA {P : Program} {f : FuncId} {args : Array Value} {r : Value} {M : World} {C : World → Prop} (h1 : ∀ W, C W → Below M.heap.size M W) (h2 : ∀ W, Below M.heap.size M W → C W)
    (K : ∀ W, Calls P f args W fun e w' => e = .returned r ∧ Below W.heap.size W w') (V : World) (hV : C V) : Calls P f args (V.alloc (.cells #[.int .u32 0, .int .u32 0, .int .u32 0, .int .u32 0, .int .u16 0, .int .u16 0, .int .u16 0, .int .u16 0, .int .u8 0, .int .u8 0] 109)) fun e w' => e = .returned r ∧ C w' ∧ ZeroB M w' V.heap.size :=
  (K _).mono fun _ _ h => ⟨h.1, h2 _ (beyond ((h1 V hV).alloc (h1 V hV).size _) h.2), zeroB (h1 V hV).size ((Blk.new V _ _).below h.2 (Blk.new V _ _).lt)⟩
theorem heldD {P : Program} {f : FuncId} {args : Array Value} {r : Value} {M : World} {C : World → Prop} (h2 : ∀ W, Below M.heap.size M W → C W)
    (K : ∀ W, Calls P f args W fun e w' => e = .returned r ∧ Below W.heap.size W w') : Calls P f args ((M.alloc (.cells #[.int .u32 0, .int .u32 0, .int .u32 0, .int .u32 0, .int .u16 0, .int .u16 0, .int .u16 0, .int .u16 0, .int .u8 0, .int .u8 0] 109)).drew) fun e w' => e = .returned r ∧ C w' ∧ ZeroB M w' M.heap.size := by
  have hb0 : Below M.heap.size M ((M.alloc (.cells #[.int .u32 0, .int .u32 0, .int .u32 0, .int .u32 0, .int .u16 0, .int .u16 0, .int .u16 0, .int .u16 0, .int .u8 0, .int .u8 0] 109)).drew) := (below_alloc (Below.refl _ _) _).drew
  have hz : Blk ((M.alloc (.cells #[.int .u32 0, .int .u32 0, .int .u32 0, .int .u32 0, .int .u16 0, .int .u16 0, .int .u16 0, .int .u16 0, .int .u8 0, .int .u8 0] 109)).drew) M.heap.size #[.int .u32 0, .int .u32 0, .int .u32 0, .int .u32 0, .int .u16 0, .int .u16 0, .int .u16 0, .int .u16 0, .int .u8 0, .int .u8 0] 109 := (Blk.new M _ _).drew
  exact (K _).mono fun _ _ h => ⟨h.1, h2 _ (beyond hb0 h.2), zeroB (Nat.le_refl _) (hz.below h.2 hz.lt)⟩
theorem heldG {P : Program} {f : FuncId} {args : Array Value} {r : Value} {M : World} {C : World → Prop} (h1 : ∀ W, C W → Below M.heap.size M W) (h2 : ∀ W, Below M.heap.size M W → C W)
    (K : ∀ W, Calls P f args W fun e w' => e = .returned r ∧ Below W.heap.size W w') (V : World) (g : Nat) (hV : C V) (hl : M.heap.size ≤ g) (hg : Blk V g #[.int .u32 Bx.zero.src.lo, .int .u32 Bx.zero.src.hi, .int .u32 Bx.zero.dst.lo, .int .u32 Bx.zero.dst.hi, .int .u16 Bx.zero.sp.lo, .int .u16 Bx.zero.sp.hi, .int .u16 Bx.zero.dp.lo, .int .u16 Bx.zero.dp.hi, .int .u8 Bx.zero.pr.v, .int .u8 Bx.zero.pr.c] 109) : Calls P f args V fun e w' => e = .returned r ∧ C w' ∧ ZeroB M w' g :=
  (K _).mono fun _ _ h => ⟨h.1, h2 _ (beyond (h1 V hV) h.2), zeroB hl (hg.below h.2 hg.lt)⟩
theorem fillB {V : World} {g : Nat} {T : TypeId} {y0 y1 y2 y3 y4 y5 y6 y7 y8 y9 u0 u1 u2 u3 u4 u5 u6 u7 u8 u9 : Value} (h : Blk V g #[y0, y1, y2, y3, y4, y5, y6, y7, y8, y9] T) : Blk ((((((((((V.setCell ⟨g, 0, none⟩ u0).setCell ⟨g, 1, none⟩ u1).setCell ⟨g, 2, none⟩ u2).setCell ⟨g, 3, none⟩ u3).setCell ⟨g, 4, none⟩ u4).setCell ⟨g, 5, none⟩ u5).setCell ⟨g, 6, none⟩ u6).setCell ⟨g, 7, none⟩ u7).setCell ⟨g, 8, none⟩ u8).setCell ⟨g, 9, none⟩ u9) g #[u0, u1, u2, u3, u4, u5, u6, u7, u8, u9] T := by
  have k := ((((((((((h.set 0 u0).set 1 u1).set 2 u2).set 3 u3).set 4 u4).set 5 u5).set 6 u6).set 7 u7).set 8 u8).set 9 u9)
  simp only [List.setIfInBounds_toArray, List.set_cons_zero, List.set_cons_succ] at k
  exact k
/-- two boxes and a result's box in memory, what they share so far, and which fields meet -/
structure MeetI (M : World) (B g t : Nat) (a b : Bx) (cs fl : Array Value) (W : World) : Prop where
  bel : Below M.heap.size M W
  ba : Blk W B #[.int .u32 a.src.lo, .int .u32 a.src.hi, .int .u32 a.dst.lo, .int .u32 a.dst.hi, .int .u16 a.sp.lo, .int .u16 a.sp.hi, .int .u16 a.dp.lo, .int .u16 a.dp.hi, .int .u8 a.pr.v, .int .u8 a.pr.c] 109
  bb : Blk W (B + 1) #[.int .u32 b.src.lo, .int .u32 b.src.hi, .int .u32 b.dst.lo, .int .u32 b.dst.hi, .int .u16 b.sp.lo, .int .u16 b.sp.hi, .int .u16 b.dp.lo, .int .u16 b.dp.hi, .int .u8 b.pr.v, .int .u8 b.pr.c] 109
  br : Blk W (B + 1 + 1) #[.int .u32 Bx.zero.src.lo, .int .u32 Bx.zero.src.hi, .int .u32 Bx.zero.dst.lo, .int .u32 Bx.zero.dst.hi, .int .u16 Bx.zero.sp.lo, .int .u16 Bx.zero.sp.hi, .int .u16 Bx.zero.dp.lo, .int .u16 Bx.zero.dp.hi, .int .u8 Bx.zero.pr.v, .int .u8 Bx.zero.pr.c] 109
  bg : Blk W g cs 109
  bt : Blk W t fl 159
  lg : M.heap.size ≤ g
  lt : M.heap.size ≤ t
theorem MeetI.move {M : World} {B g t : Nat} {a b : Bx} {cs fl : Array Value} {W W' : World} (h : MeetI M B g t a b cs fl W) (hb : Below W.heap.size W W') : MeetI M B g t a b cs fl W' :=
  ⟨beyond h.bel hb, h.ba.below hb h.ba.lt, h.bb.below hb h.bb.lt, h.br.below hb h.br.lt, h.bg.below hb h.bg.lt, h.bt.below hb h.bt.lt, h.lg, h.lt⟩
theorem MeetI.put {M : World} {B g t : Nat} {a b : Bx} {cs fl : Array Value} {W : World} (h : MeetI M B g t a b cs fl W) (hM : B + 1 + 1 < M.heap.size) (i j k : Nat) (u v x : Value) :
    MeetI M B g t a b ((cs.setIfInBounds i u).setIfInBounds j v) (fl.setIfInBounds k x) (((W.setCell ⟨g, i, none⟩ u).setCell ⟨g, j, none⟩ v).setCell ⟨t, k, none⟩ x) := by
  have n1 := h.lg
  have n2 := h.lt
  have n3 : g ≠ t := fun e => by
    have h1 := h.bg
    have h2 := h.bt
    rw [e] at h1
    unfold Blk at h1 h2
    rw [h1] at h2
    have := congrArg (fun o => match o with | some (Obj.cells _ T _) => T | _ => 0) h2
    simp at this
  refine ⟨((h.bel.setCell n1 _).setCell n1 _).setCell n2 _, ?_, ?_, ?_, ((h.bg.set i u).set j v).other _ n3, ((h.bt.other _ (Ne.symm n3)).other _ (Ne.symm n3)).set k x, n1, n2⟩
  · exact ((h.ba.other _ (by simp only; omega)).other _ (by simp only; omega)).other _ (by simp only; omega)
  · exact ((h.bb.other _ (by simp only; omega)).other _ (by simp only; omega)).other _ (by simp only; omega)
  · exact ((h.br.other _ (by simp only; omega)).other _ (by simp only; omega)).other _ (by simp only; omega)
theorem MeetI.cells {M : World} {B g t : Nat} {a b : Bx} {cs fl : Array Value} {W : World} (h : MeetI M B g t a b cs fl W) : W.cell? ⟨B, 0, none⟩ = some (.int .u32 a.src.lo) ∧ W.cell? ⟨B, 1, none⟩ = some (.int .u32 a.src.hi) ∧ W.cell? ⟨B, 2, none⟩ = some (.int .u32 a.dst.lo) ∧ W.cell? ⟨B, 3, none⟩ = some (.int .u32 a.dst.hi) ∧ W.cell? ⟨B, 4, none⟩ = some (.int .u16 a.sp.lo) ∧ W.cell? ⟨B, 5, none⟩ = some (.int .u16 a.sp.hi) ∧ W.cell? ⟨B, 6, none⟩ = some (.int .u16 a.dp.lo) ∧ W.cell? ⟨B, 7, none⟩ = some (.int .u16 a.dp.hi) ∧ W.cell? ⟨B, 8, none⟩ = some (.int .u8 a.pr.v) ∧ W.cell? ⟨B, 9, none⟩ = some (.int .u8 a.pr.c) ∧ W.cell? ⟨B + 1, 0, none⟩ = some (.int .u32 b.src.lo) ∧ W.cell? ⟨B + 1, 1, none⟩ = some (.int .u32 b.src.hi) ∧ W.cell? ⟨B + 1, 2, none⟩ = some (.int .u32 b.dst.lo) ∧ W.cell? ⟨B + 1, 3, none⟩ = some (.int .u32 b.dst.hi) ∧ W.cell? ⟨B + 1, 4, none⟩ = some (.int .u16 b.sp.lo) ∧ W.cell? ⟨B + 1, 5, none⟩ = some (.int .u16 b.sp.hi) ∧ W.cell? ⟨B + 1, 6, none⟩ = some (.int .u16 b.dp.lo) ∧ W.cell? ⟨B + 1, 7, none⟩ = some (.int .u16 b.dp.hi) ∧ W.cell? ⟨B + 1, 8, none⟩ = some (.int .u8 b.pr.v) ∧ W.cell? ⟨B + 1, 9, none⟩ = some (.int .u8 b.pr.c) := by
  have k := h.ba
  have l := h.bb
  exact ⟨k.cell (i := 0) rfl, k.cell (i := 1) rfl, k.cell (i := 2) rfl, k.cell (i := 3) rfl, k.cell (i := 4) rfl, k.cell (i := 5) rfl, k.cell (i := 6) rfl, k.cell (i := 7) rfl, k.cell (i := 8) rfl, k.cell (i := 9) rfl, l.cell (i := 0) rfl, l.cell (i := 1) rfl, l.cell (i := 2) rfl, l.cell (i := 3) rfl, l.cell (i := 4) rfl, l.cell (i := 5) rfl, l.cell (i := 6) rfl, l.cell (i := 7) rfl, l.cell (i := 8) rfl, l.cell (i := 9) rfl⟩
theorem neTypes {W : World} {B g : Nat} {c d : Array Value} {T U : TypeId} (h : Blk W B c T) (k : Blk W g d U) (hne : T ≠ U) : B ≠ g := by
  intro e
  rw [e] at h
  unfold Blk at h k
  rw [h] at k
  exact hne (by simpa using congrArg (fun o => match o with | some (Obj.cells _ T _) => T | _ => 0) k)
/-- what the last test reads, beyond the world in which it begins -/
def MeetS (N : World) (B g t : Nat) (a b m : Bx) (f1 f2 f3 : Bool) (W : World) : Prop := Below N.heap.size N W ∧ (W.cell? ⟨B, 0, none⟩ = some (.int .u32 a.src.lo) ∧ W.cell? ⟨B, 1, none⟩ = some (.int .u32 a.src.hi) ∧ W.cell? ⟨B, 2, none⟩ = some (.int .u32 a.dst.lo) ∧ W.cell? ⟨B, 3, none⟩ = some (.int .u32 a.dst.hi) ∧ W.cell? ⟨B, 4, none⟩ = some (.int .u16 a.sp.lo) ∧ W.cell? ⟨B, 5, none⟩ = some (.int .u16 a.sp.hi) ∧ W.cell? ⟨B, 6, none⟩ = some (.int .u16 a.dp.lo) ∧ W.cell? ⟨B, 7, none⟩ = some (.int .u16 a.dp.hi) ∧ W.cell? ⟨B, 8, none⟩ = some (.int .u8 a.pr.v) ∧ W.cell? ⟨B, 9, none⟩ = some (.int .u8 a.pr.c)) ∧ (W.cell? ⟨B + 1, 0, none⟩ = some (.int .u32 b.src.lo) ∧ W.cell? ⟨B + 1, 1, none⟩ = some (.int .u32 b.src.hi) ∧ W.cell? ⟨B + 1, 2, none⟩ = some (.int .u32 b.dst.lo) ∧ W.cell? ⟨B + 1, 3, none⟩ = some (.int .u32 b.dst.hi) ∧ W.cell? ⟨B + 1, 4, none⟩ = some (.int .u16 b.sp.lo) ∧ W.cell? ⟨B + 1, 5, none⟩ = some (.int .u16 b.sp.hi) ∧ W.cell? ⟨B + 1, 6, none⟩ = some (.int .u16 b.dp.lo) ∧ W.cell? ⟨B + 1, 7, none⟩ = some (.int .u16 b.dp.hi) ∧ W.cell? ⟨B + 1, 8, none⟩ = some (.int .u8 b.pr.v) ∧ W.cell? ⟨B + 1, 9, none⟩ = some (.int .u8 b.pr.c)) ∧ (W.cell? ⟨g, 0, none⟩ = some (.int .u32 m.src.lo) ∧ W.cell? ⟨g, 1, none⟩ = some (.int .u32 m.src.hi) ∧ W.cell? ⟨g, 2, none⟩ = some (.int .u32 m.dst.lo) ∧ W.cell? ⟨g, 3, none⟩ = some (.int .u32 m.dst.hi) ∧ W.cell? ⟨g, 4, none⟩ = some (.int .u16 m.sp.lo) ∧ W.cell? ⟨g, 5, none⟩ = some (.int .u16 m.sp.hi) ∧ W.cell? ⟨g, 6, none⟩ = some (.int .u16 m.dp.lo) ∧ W.cell? ⟨g, 7, none⟩ = some (.int .u16 m.dp.hi) ∧ W.cell? ⟨g, 8, none⟩ = some (.int .u8 m.pr.v) ∧ W.cell? ⟨g, 9, none⟩ = some (.int .u8 m.pr.c)) ∧ W.cell? ⟨t, 0, none⟩ = some (.bool f1) ∧ W.cell? ⟨t, 1, none⟩ = some (.bool f2) ∧ W.cell? ⟨t, 2, none⟩ = some (.bool f3)
theorem meetS {M N : World} {B g t : Nat} {a b m : Bx} {f1 f2 f3 : Bool} (h : MeetI M B g t a b #[.int .u32 m.src.lo, .int .u32 m.src.hi, .int .u32 m.dst.lo, .int .u32 m.dst.hi, .int .u16 m.sp.lo, .int .u16 m.sp.hi, .int .u16 m.dp.lo, .int .u16 m.dp.hi, .int .u8 m.pr.v, .int .u8 m.pr.c] #[.bool f1, .bool f2, .bool f3] N) (W : World) (hW : Below N.heap.size N W) : MeetS N B g t a b m f1 f2 f3 W := by
  have k := h.move hW
  have k1 := k.ba
  have k2 := k.bb
  have k3 := k.bg
  exact ⟨hW, ⟨k1.cell (i := 0) rfl, k1.cell (i := 1) rfl, k1.cell (i := 2) rfl, k1.cell (i := 3) rfl, k1.cell (i := 4) rfl, k1.cell (i := 5) rfl, k1.cell (i := 6) rfl, k1.cell (i := 7) rfl, k1.cell (i := 8) rfl, k1.cell (i := 9) rfl⟩, ⟨k2.cell (i := 0) rfl, k2.cell (i := 1) rfl, k2.cell (i := 2) rfl, k2.cell (i := 3) rfl, k2.cell (i := 4) rfl, k2.cell (i := 5) rfl, k2.cell (i := 6) rfl, k2.cell (i := 7) rfl, k2.cell (i := 8) rfl, k2.cell (i := 9) rfl⟩, ⟨k3.cell (i := 0) rfl, k3.cell (i := 1) rfl, k3.cell (i := 2) rfl, k3.cell (i := 3) rfl, k3.cell (i := 4) rfl, k3.cell (i := 5) rfl, k3.cell (i := 6) rfl, k3.cell (i := 7) rfl, k3.cell (i := 8) rfl, k3.cell (i := 9) rfl⟩, k.bt.cell (i := 0) rfl, k.bt.cell (i := 1) rfl, k.bt.cell (i := 2) rfl⟩
theorem neq3 (f1 f2 f3 : Bool) (W : World) : (binOp .neq 159 (.agg #[.bool f1, .bool f2, .bool f3]) (.agg #[.bool true, .bool true, .bool true])).run Try.prog W = .ok (.bool (!(f1 && f2 && f3))) W := by
  cases f1 <;> cases f2 <;> cases f3 <;> kernel_rfl
theorem guard3 (f1 f2 f3 : Bool) (x y : Operand) (W : World) : (eqGuard .neq 159 x y (.agg #[.bool f1, .bool f2, .bool f3]) (.agg #[.bool true, .bool true, .bool true])).run Try.prog W = .ok () W := by kernel_rfl
theorem Bx.join_wf {a b : Bx} (ha : a.Wf) (hb : b.Wf) : (a.join b).Wf := by
  have a1 := ha.src; have a2 := ha.dst; have a3 := ha.sp; have a4 := ha.dp
  have b1 := hb.src; have b2 := hb.dst; have b3 := hb.sp; have b4 := hb.dp
  refine ⟨⟨?_, ?_⟩, ⟨?_, ?_⟩, ⟨?_, ?_⟩, ⟨?_, ?_⟩, ⟨Nat.or_lt_two_pow (n := 8) ha.pr.v hb.pr.v, Nat.or_lt_two_pow (n := 8) ha.pr.c hb.pr.c⟩⟩
  all_goals simp only [Bx.join, Run.meet, Spn.meet]
  · have := a1.lo; have := b1.lo; omega
  · have := a1.hi; have := b1.hi; omega
  · have := a2.lo; have := b2.lo; omega
  · have := a2.hi; have := b2.hi; omega
  · have := a3.lo; have := b3.lo; omega
  · have := a3.hi; have := b3.hi; omega
  · have := a4.lo; have := b4.lo; omega
  · have := a4.hi; have := b4.hi; omega
set_option maxHeartbeats 8000000 in
set_option maxRecDepth 100000 in
theorem boxMeet_any (a b : Bx) (ha : a.Wf) (hb : b.Wf) (w : World) : Calls Try.prog 66 #[.agg #[.int .u32 a.src.lo, .int .u32 a.src.hi, .int .u32 a.dst.lo, .int .u32 a.dst.hi, .int .u16 a.sp.lo, .int .u16 a.sp.hi, .int .u16 a.dp.lo, .int .u16 a.dp.hi, .int .u8 a.pr.v, .int .u8 a.pr.c], .agg #[.int .u32 b.src.lo, .int .u32 b.src.hi, .int .u32 b.dst.lo, .int .u32 b.dst.hi, .int .u16 b.sp.lo, .int .u16 b.sp.hi, .int .u16 b.dp.lo, .int .u16 b.dp.hi, .int .u8 b.pr.v, .int .u8 b.pr.c]] w fun e w' => e = .returned (.tuple #[.agg #[.int .u32 (a.meet b).src.lo, .int .u32 (a.meet b).src.hi, .int .u32 (a.meet b).dst.lo, .int .u32 (a.meet b).dst.hi, .int .u16 (a.meet b).sp.lo, .int .u16 (a.meet b).sp.hi, .int .u16 (a.meet b).dp.lo, .int .u16 (a.meet b).dp.hi, .int .u8 (a.meet b).pr.v, .int .u8 (a.meet b).pr.c], .bool (a.meets b)]) ∧ Below w.heap.size w w' := by
  obtain ⟨M, hM⟩ : ∃ M, M = ((w.alloc (.cells #[.int .u32 a.src.lo, .int .u32 a.src.hi, .int .u32 a.dst.lo, .int .u32 a.dst.hi, .int .u16 a.sp.lo, .int .u16 a.sp.hi, .int .u16 a.dp.lo, .int .u16 a.dp.hi, .int .u8 a.pr.v, .int .u8 a.pr.c] 109)).alloc (.cells #[.int .u32 b.src.lo, .int .u32 b.src.hi, .int .u32 b.dst.lo, .int .u32 b.dst.hi, .int .u16 b.sp.lo, .int .u16 b.sp.hi, .int .u16 b.dp.lo, .int .u16 b.dp.hi, .int .u8 b.pr.v, .int .u8 b.pr.c] 109)).alloc (.cells #[.int .u32 0, .int .u32 0, .int .u32 0, .int .u32 0, .int .u16 0, .int .u16 0, .int .u16 0, .int .u16 0, .int .u8 0, .int .u8 0] 109) := ⟨_, rfl⟩
  have HWM : Sd (Below w.heap.size w M) := ⟨by rw [hM]; exact below_alloc (below_alloc (below_alloc (Below.refl _ _) _) _) _⟩
  have hsz : w.heap.size + 1 + 1 < M.heap.size := by rw [hM]; simp
  have hA : Blk M w.heap.size #[.int .u32 a.src.lo, .int .u32 a.src.hi, .int .u32 a.dst.lo, .int .u32 a.dst.hi, .int .u16 a.sp.lo, .int .u16 a.sp.hi, .int .u16 a.dp.lo, .int .u16 a.dp.hi, .int .u8 a.pr.v, .int .u8 a.pr.c] 109 := by rw [hM]; exact ((Blk.new _ _ _).alloc _).alloc _
  have hBb : Blk M (w.heap.size + 1) #[.int .u32 b.src.lo, .int .u32 b.src.hi, .int .u32 b.dst.lo, .int .u32 b.dst.hi, .int .u16 b.sp.lo, .int .u16 b.sp.hi, .int .u16 b.dp.lo, .int .u16 b.dp.hi, .int .u8 b.pr.v, .int .u8 b.pr.c] 109 := by rw [hM]; exact (blkN (by simp) _ _).alloc _
  have hR : Blk M (w.heap.size + 1 + 1) #[.int .u32 Bx.zero.src.lo, .int .u32 Bx.zero.src.hi, .int .u32 Bx.zero.dst.lo, .int .u32 Bx.zero.dst.hi, .int .u16 Bx.zero.sp.lo, .int .u16 Bx.zero.sp.hi, .int .u16 Bx.zero.dp.lo, .int .u16 Bx.zero.dp.hi, .int .u8 Bx.zero.pr.v, .int .u8 Bx.zero.pr.c] 109 := by rw [hM]; exact blkN (by simp) _ _
  have HMM := Sd.mk hM
  have HA := Sd.mk hA
  have HBB := Sd.mk hBb
  have HR := Sd.mk hR
  obtain ⟨l1, h1, p1, K1⟩ := spnMeet_ex a.sp b.sp
  obtain ⟨l2, h2, p2, K2⟩ := spnMeet_ex a.dp b.dp
  obtain ⟨l3, h3, p3, K3⟩ := mskMeet_ex a.pr b.pr ha.pr hb.pr
  have HP1 := Sd.mk p1
  have HP2 := Sd.mk p2
  have HP3 := Sd.mk p3
  obtain ⟨f1, e1⟩ : ∃ f, a.sp.meets b.sp = f := ⟨_, rfl⟩
  obtain ⟨f2, e2⟩ : ∃ f, a.dp.meets b.dp = f := ⟨_, rfl⟩
  obtain ⟨f3, e3⟩ : ∃ f, a.pr.meets b.pr = f := ⟨_, rfl⟩
  rw [e1] at K1
  rw [e2] at K2
  rw [e3] at K3
  have HE1 := Sd.mk e1
  have HE2 := Sd.mk e2
  have HE3 := Sd.mk e3
  have HK1 := Sd.mk K1
  have HK2 := Sd.mk K2
  have HK3 := Sd.mk K3
  have KC : ∀ W, Below M.heap.size M W → Below M.heap.size M W ∧ W.cell? ⟨w.heap.size, 0, none⟩ = some (.int .u32 a.src.lo) ∧ W.cell? ⟨w.heap.size, 1, none⟩ = some (.int .u32 a.src.hi) ∧ W.cell? ⟨w.heap.size, 2, none⟩ = some (.int .u32 a.dst.lo) ∧ W.cell? ⟨w.heap.size, 3, none⟩ = some (.int .u32 a.dst.hi) ∧ W.cell? ⟨w.heap.size + 1, 0, none⟩ = some (.int .u32 b.src.lo) ∧ W.cell? ⟨w.heap.size + 1, 1, none⟩ = some (.int .u32 b.src.hi) ∧ W.cell? ⟨w.heap.size + 1, 2, none⟩ = some (.int .u32 b.dst.lo) ∧ W.cell? ⟨w.heap.size + 1, 3, none⟩ = some (.int .u32 b.dst.hi) := fun W h => by
    have k := hA.below h hA.lt
    have l := hBb.below h hBb.lt
    exact ⟨h, k.cell (i := 0) rfl, k.cell (i := 1) rfl, k.cell (i := 2) rfl, k.cell (i := 3) rfl, l.cell (i := 0) rfl, l.cell (i := 1) rfl, l.cell (i := 2) rfl, l.cell (i := 3) rfl⟩
  have HKC := Sd.mk KC
  have S1 := share_any a.src b.src
  have S2 := share_any a.dst b.dst
  unfold Run.meet at S1 S2
  have HA1 := Sd.mk (heldA (fun _ h => h.1) KC S1)
  have HA2 := Sd.mk (heldA (fun _ h => h.1) KC S2)
  have HG2 := Sd.mk (heldG (fun _ h => h.1) KC S2)
  have HS1 := Sd.mk (heldS (fun _ h => h.1) KC S1)
  have HS2 := Sd.mk (heldS (fun _ h => h.1) KC S2)
  have HD1 := Sd.mk (heldD KC S1)
  clear S1 S2
  have HWA := Sd.mk ha
  have HWB := Sd.mk hb
  clear hM hA hBb hR p1 p2 p3 e1 e2 e3 K1 K2 K3 KC ha hb
  go_enter Try.func66, Try.ntmps66
  go_upto_region 1 with fail
  rw [show ((w.alloc (.cells #[.int .u32 a.src.lo, .int .u32 a.src.hi, .int .u32 a.dst.lo, .int .u32 a.dst.hi, .int .u16 a.sp.lo, .int .u16 a.sp.hi, .int .u16 a.dp.lo, .int .u16 a.dp.hi, .int .u8 a.pr.v, .int .u8 a.pr.c] 109)).alloc (.cells #[.int .u32 b.src.lo, .int .u32 b.src.hi, .int .u32 b.dst.lo, .int .u32 b.dst.hi, .int .u16 b.sp.lo, .int .u16 b.sp.hi, .int .u16 b.dp.lo, .int .u16 b.dp.hi, .int .u8 b.pr.v, .int .u8 b.pr.c] 109)).alloc (.cells #[.int .u32 0, .int .u32 0, .int .u32 0, .int .u32 0, .int .u16 0, .int .u16 0, .int .u16 0, .int .u16 0, .int .u8 0, .int .u8 0] 109) = M from HMM.out.symm]
  go_cut [6] (fun s6 wx => ∃ g : Nat, s6 = .pointer (some ⟨g, 0, none⟩) ∧ Sd (Below M.heap.size M wx ∧ M.heap.size ≤ g ∧ Blk wx g #[.int .u32 ((max a.src.lo b.src.lo : Nat) : Int), .int .u32 ((min a.src.hi b.src.hi : Nat) : Int), .int .u32 ((max a.dst.lo b.dst.lo : Nat) : Int), .int .u32 ((min a.dst.hi b.dst.hi : Nat) : Int), .int .u16 0, .int .u16 0, .int .u16 0, .int .u16 0, .int .u8 0, .int .u8 0] 109))
  case first =>
    have HKA : Sd (∀ W o, (Below M.heap.size M W ∧ W.cell? ⟨w.heap.size, 0, none⟩ = some (.int .u32 a.src.lo) ∧ W.cell? ⟨w.heap.size, 1, none⟩ = some (.int .u32 a.src.hi) ∧ W.cell? ⟨w.heap.size, 2, none⟩ = some (.int .u32 a.dst.lo) ∧ W.cell? ⟨w.heap.size, 3, none⟩ = some (.int .u32 a.dst.hi) ∧ W.cell? ⟨w.heap.size + 1, 0, none⟩ = some (.int .u32 b.src.lo) ∧ W.cell? ⟨w.heap.size + 1, 1, none⟩ = some (.int .u32 b.src.hi) ∧ W.cell? ⟨w.heap.size + 1, 2, none⟩ = some (.int .u32 b.dst.lo) ∧ W.cell? ⟨w.heap.size + 1, 3, none⟩ = some (.int .u32 b.dst.hi)) → (Below M.heap.size M (W.alloc o) ∧ (W.alloc o).cell? ⟨w.heap.size, 0, none⟩ = some (.int .u32 a.src.lo) ∧ (W.alloc o).cell? ⟨w.heap.size, 1, none⟩ = some (.int .u32 a.src.hi) ∧ (W.alloc o).cell? ⟨w.heap.size, 2, none⟩ = some (.int .u32 a.dst.lo) ∧ (W.alloc o).cell? ⟨w.heap.size, 3, none⟩ = some (.int .u32 a.dst.hi) ∧ (W.alloc o).cell? ⟨w.heap.size + 1, 0, none⟩ = some (.int .u32 b.src.lo) ∧ (W.alloc o).cell? ⟨w.heap.size + 1, 1, none⟩ = some (.int .u32 b.src.hi) ∧ (W.alloc o).cell? ⟨w.heap.size + 1, 2, none⟩ = some (.int .u32 b.dst.lo) ∧ (W.alloc o).cell? ⟨w.heap.size + 1, 3, none⟩ = some (.int .u32 b.dst.hi))) := ⟨fun W o h => HKC.out _ (h.1.alloc h.1.size o)⟩
    have HKT : Sd (∀ (V : World) (g : Nat) (u0 u1 u2 u3 u4 u5 u6 u7 u8 u9 : Value), (Below M.heap.size M V ∧ V.cell? ⟨w.heap.size, 0, none⟩ = some (.int .u32 a.src.lo) ∧ V.cell? ⟨w.heap.size, 1, none⟩ = some (.int .u32 a.src.hi) ∧ V.cell? ⟨w.heap.size, 2, none⟩ = some (.int .u32 a.dst.lo) ∧ V.cell? ⟨w.heap.size, 3, none⟩ = some (.int .u32 a.dst.hi) ∧ V.cell? ⟨w.heap.size + 1, 0, none⟩ = some (.int .u32 b.src.lo) ∧ V.cell? ⟨w.heap.size + 1, 1, none⟩ = some (.int .u32 b.src.hi) ∧ V.cell? ⟨w.heap.size + 1, 2, none⟩ = some (.int .u32 b.dst.lo) ∧ V.cell? ⟨w.heap.size + 1, 3, none⟩ = some (.int .u32 b.dst.hi)) → M.heap.size ≤ g → (Below M.heap.size M ((((((((((V.setCell ⟨g, 0, none⟩ u0).setCell ⟨g, 1, none⟩ u1).setCell ⟨g, 2, none⟩ u2).setCell ⟨g, 3, none⟩ u3).setCell ⟨g, 4, none⟩ u4).setCell ⟨g, 5, none⟩ u5).setCell ⟨g, 6, none⟩ u6).setCell ⟨g, 7, none⟩ u7).setCell ⟨g, 8, none⟩ u8).setCell ⟨g, 9, none⟩ u9) ∧ ((((((((((V.setCell ⟨g, 0, none⟩ u0).setCell ⟨g, 1, none⟩ u1).setCell ⟨g, 2, none⟩ u2).setCell ⟨g, 3, none⟩ u3).setCell ⟨g, 4, none⟩ u4).setCell ⟨g, 5, none⟩ u5).setCell ⟨g, 6, none⟩ u6).setCell ⟨g, 7, none⟩ u7).setCell ⟨g, 8, none⟩ u8).setCell ⟨g, 9, none⟩ u9).cell? ⟨w.heap.size, 0, none⟩ = some (.int .u32 a.src.lo) ∧ ((((((((((V.setCell ⟨g, 0, none⟩ u0).setCell ⟨g, 1, none⟩ u1).setCell ⟨g, 2, none⟩ u2).setCell ⟨g, 3, none⟩ u3).setCell ⟨g, 4, none⟩ u4).setCell ⟨g, 5, none⟩ u5).setCell ⟨g, 6, none⟩ u6).setCell ⟨g, 7, none⟩ u7).setCell ⟨g, 8, none⟩ u8).setCell ⟨g, 9, none⟩ u9).cell? ⟨w.heap.size, 1, none⟩ = some (.int .u32 a.src.hi) ∧ ((((((((((V.setCell ⟨g, 0, none⟩ u0).setCell ⟨g, 1, none⟩ u1).setCell ⟨g, 2, none⟩ u2).setCell ⟨g, 3, none⟩ u3).setCell ⟨g, 4, none⟩ u4).setCell ⟨g, 5, none⟩ u5).setCell ⟨g, 6, none⟩ u6).setCell ⟨g, 7, none⟩ u7).setCell ⟨g, 8, none⟩ u8).setCell ⟨g, 9, none⟩ u9).cell? ⟨w.heap.size, 2, none⟩ = some (.int .u32 a.dst.lo) ∧ ((((((((((V.setCell ⟨g, 0, none⟩ u0).setCell ⟨g, 1, none⟩ u1).setCell ⟨g, 2, none⟩ u2).setCell ⟨g, 3, none⟩ u3).setCell ⟨g, 4, none⟩ u4).setCell ⟨g, 5, none⟩ u5).setCell ⟨g, 6, none⟩ u6).setCell ⟨g, 7, none⟩ u7).setCell ⟨g, 8, none⟩ u8).setCell ⟨g, 9, none⟩ u9).cell? ⟨w.heap.size, 3, none⟩ = some (.int .u32 a.dst.hi) ∧ ((((((((((V.setCell ⟨g, 0, none⟩ u0).setCell ⟨g, 1, none⟩ u1).setCell ⟨g, 2, none⟩ u2).setCell ⟨g, 3, none⟩ u3).setCell ⟨g, 4, none⟩ u4).setCell ⟨g, 5, none⟩ u5).setCell ⟨g, 6, none⟩ u6).setCell ⟨g, 7, none⟩ u7).setCell ⟨g, 8, none⟩ u8).setCell ⟨g, 9, none⟩ u9).cell? ⟨w.heap.size + 1, 0, none⟩ = some (.int .u32 b.src.lo) ∧ ((((((((((V.setCell ⟨g, 0, none⟩ u0).setCell ⟨g, 1, none⟩ u1).setCell ⟨g, 2, none⟩ u2).setCell ⟨g, 3, none⟩ u3).setCell ⟨g, 4, none⟩ u4).setCell ⟨g, 5, none⟩ u5).setCell ⟨g, 6, none⟩ u6).setCell ⟨g, 7, none⟩ u7).setCell ⟨g, 8, none⟩ u8).setCell ⟨g, 9, none⟩ u9).cell? ⟨w.heap.size + 1, 1, none⟩ = some (.int .u32 b.src.hi) ∧ ((((((((((V.setCell ⟨g, 0, none⟩ u0).setCell ⟨g, 1, none⟩ u1).setCell ⟨g, 2, none⟩ u2).setCell ⟨g, 3, none⟩ u3).setCell ⟨g, 4, none⟩ u4).setCell ⟨g, 5, none⟩ u5).setCell ⟨g, 6, none⟩ u6).setCell ⟨g, 7, none⟩ u7).setCell ⟨g, 8, none⟩ u8).setCell ⟨g, 9, none⟩ u9).cell? ⟨w.heap.size + 1, 2, none⟩ = some (.int .u32 b.dst.lo) ∧ ((((((((((V.setCell ⟨g, 0, none⟩ u0).setCell ⟨g, 1, none⟩ u1).setCell ⟨g, 2, none⟩ u2).setCell ⟨g, 3, none⟩ u3).setCell ⟨g, 4, none⟩ u4).setCell ⟨g, 5, none⟩ u5).setCell ⟨g, 6, none⟩ u6).setCell ⟨g, 7, none⟩ u7).setCell ⟨g, 8, none⟩ u8).setCell ⟨g, 9, none⟩ u9).cell? ⟨w.heap.size + 1, 3, none⟩ = some (.int .u32 b.dst.hi))) := ⟨fun V g u0 u1 u2 u3 u4 u5 u6 u7 u8 u9 h hg => HKC.out _ ((((((((((h.1.setCell hg _).setCell hg _).setCell hg _).setCell hg _).setCell hg _).setCell hg _).setCell hg _).setCell hg _).setCell hg _).setCell hg _)⟩
    have HKD : Sd (∀ o, Below M.heap.size M ((M.alloc o).drew) ∧ ((M.alloc o).drew).cell? ⟨w.heap.size, 0, none⟩ = some (.int .u32 a.src.lo) ∧ ((M.alloc o).drew).cell? ⟨w.heap.size, 1, none⟩ = some (.int .u32 a.src.hi) ∧ ((M.alloc o).drew).cell? ⟨w.heap.size, 2, none⟩ = some (.int .u32 a.dst.lo) ∧ ((M.alloc o).drew).cell? ⟨w.heap.size, 3, none⟩ = some (.int .u32 a.dst.hi) ∧ ((M.alloc o).drew).cell? ⟨w.heap.size + 1, 0, none⟩ = some (.int .u32 b.src.lo) ∧ ((M.alloc o).drew).cell? ⟨w.heap.size + 1, 1, none⟩ = some (.int .u32 b.src.hi) ∧ ((M.alloc o).drew).cell? ⟨w.heap.size + 1, 2, none⟩ = some (.int .u32 b.dst.lo) ∧ ((M.alloc o).drew).cell? ⟨w.heap.size + 1, 3, none⟩ = some (.int .u32 b.dst.hi)) := ⟨fun o => HKC.out _ (below_alloc (Below.refl _ _) _).drew⟩
    have HM0 : Below M.heap.size M M.drew := (Below.refl _ _).drew
    go_region_held3 (fun W => Below M.heap.size M W ∧ W.cell? ⟨w.heap.size, 0, none⟩ = some (.int .u32 a.src.lo) ∧ W.cell? ⟨w.heap.size, 1, none⟩ = some (.int .u32 a.src.hi) ∧ W.cell? ⟨w.heap.size, 2, none⟩ = some (.int .u32 a.dst.lo) ∧ W.cell? ⟨w.heap.size, 3, none⟩ = some (.int .u32 a.dst.hi) ∧ W.cell? ⟨w.heap.size + 1, 0, none⟩ = some (.int .u32 b.src.lo) ∧ W.cell? ⟨w.heap.size + 1, 1, none⟩ = some (.int .u32 b.src.hi) ∧ W.cell? ⟨w.heap.size + 1, 2, none⟩ = some (.int .u32 b.dst.lo) ∧ W.cell? ⟨w.heap.size + 1, 3, none⟩ = some (.int .u32 b.dst.hi))
      (first | (with_reducible assumption) | (with_reducible exact HKC.out _ HM0) | (with_reducible exact HKD.out _) | (with_reducible exact HKA.out _ _ (by with_reducible assumption)) | (with_reducible exact HKT.out _ _ _ _ _ _ _ _ _ _ _ _ (by with_reducible assumption) (by with_reducible assumption)))
      (first
        | (go_at_call_of 87 (Value.agg #[.int .u32 a.src.lo, .int .u32 a.src.hi]); first | ((with_reducible refine HD1.out.mono ?_); unfold ZeroB; rintro e w1 ⟨rfl, hs1, zm, ⟨z0, z1, z2, z3, z4, z5, z6, z7, z8, z9⟩, zf, zl, zb⟩) | ((with_reducible refine (HA1.out _ (by with_reducible assumption)).mono ?_); unfold ZeroB; rintro e w1 ⟨rfl, hs1, zm, ⟨z0, z1, z2, z3, z4, z5, z6, z7, z8, z9⟩, zf, zl, zb⟩) | ((with_reducible refine (HS1.out _ (by with_reducible assumption)).mono ?_); rintro e w1 ⟨rfl, hs1⟩))
        | (go_at_call_of 87 (Value.agg #[.int .u32 a.dst.lo, .int .u32 a.dst.hi]); first | ((with_reducible refine (HA2.out _ (by with_reducible assumption)).mono ?_); unfold ZeroB; rintro e w2 ⟨rfl, hs2, zm, ⟨z0, z1, z2, z3, z4, z5, z6, z7, z8, z9⟩, zf, zl, zb⟩) | ((with_reducible refine (HG2.out _ _ (by with_reducible assumption) (by with_reducible assumption) (by with_reducible assumption)).mono ?_); unfold ZeroB; rintro e w2 ⟨rfl, hs2, zm, ⟨z0, z1, z2, z3, z4, z5, z6, z7, z8, z9⟩, zf, zl, zb⟩) | ((with_reducible refine (HS2.out _ (by with_reducible assumption)).mono ?_); rintro e w2 ⟨rfl, hs2⟩)))
    · go_wp2_with fail
      go_meet
      exact ⟨_, rfl, ⟨hs2.1.alloc hs2.1.size _, hs2.1.size, Blk.new _ _ _⟩⟩
    all_goals
      go_wp2_with fail
      go_meet
      exact ⟨_, rfl, ⟨(HKT.out _ _ _ _ _ _ _ _ _ _ _ _ hs2 zm).1, zm, fillB zb⟩⟩
  case rest =>
    obtain ⟨g, rfl, HG⟩ := hcut
    go_upto_region 3 with fail
    obtain ⟨t, ht⟩ : ∃ t, wc.heap.size = t := ⟨_, rfl⟩
    have HI : Sd (MeetI M w.heap.size g t a b #[.int .u32 ((max a.src.lo b.src.lo : Nat) : Int), .int .u32 ((min a.src.hi b.src.hi : Nat) : Int), .int .u32 ((max a.dst.lo b.dst.lo : Nat) : Int), .int .u32 ((min a.dst.hi b.dst.hi : Nat) : Int), .int .u16 0, .int .u16 0, .int .u16 0, .int .u16 0, .int .u8 0, .int .u8 0] #[.bool false, .bool false, .bool false] (wc.alloc (.cells #[.bool false, .bool false, .bool false] 159))) := ⟨by
      obtain ⟨h1, h2, h3⟩ := HG.out
      have hb0 : Below wc.heap.size wc (wc.alloc (.cells #[.bool false, .bool false, .bool false] 159)) := below_alloc (Below.refl _ _) _
      have h4 := beyond h1 hb0
      exact ⟨h4, HA.out.below h4 HA.out.lt, HBB.out.below h4 HBB.out.lt, HR.out.below h4 HR.out.lt, h3.below hb0 h3.lt, by rw [← ht]; exact Blk.new _ _ _, h2, by rw [← ht]; exact h1.size⟩⟩
    rw [ht]
    generalize wc.alloc (.cells #[.bool false, .bool false, .bool false] 159) = W0 at HI ⊢
    clear HG ht HKC HS1 HS2 HA1 HA2 HG2 HD1
    go_upto_region 3 with fail
    go_cut [7] (fun s7 wy => s7 = .pointer (some ⟨t, 0, none⟩) ∧ Sd (MeetI M w.heap.size g t a b #[.int .u32 ((max a.src.lo b.src.lo : Nat) : Int), .int .u32 ((min a.src.hi b.src.hi : Nat) : Int), .int .u32 ((max a.dst.lo b.dst.lo : Nat) : Int), .int .u32 ((min a.dst.hi b.dst.hi : Nat) : Int), .int .u16 l1, .int .u16 h1, .int .u16 0, .int .u16 0, .int .u8 0, .int .u8 0] #[.bool f1, .bool false, .bool false] wy))
    case first =>
      have HC := HI.out.cells
      obtain ⟨c0, c1, c2, c3, c4, c5, c6, c7, c8, c9, d0, d1, d2, d3, d4, d5, d6, d7, d8, d9⟩ := HC
      go_wp2_with fail
      refine (HK1.out _).mono ?_
      rintro e w4 ⟨rfl, hb⟩
      have hI := HI.out.move hb
      have HN := Sd.mk hI
      have g1 := hI.bg.cell (i := 4) rfl
      have g2 := hI.bg.cell (i := 5) rfl
      have gf := hI.bg.frozen
      have gl := hI.bg.lt
      have t1 := hI.bt.cell (i := 0) rfl
      have tf := hI.bt.frozen
      have tl := hI.bt.lt
      clear hI hb c0 c1 c2 c3 c4 c5 c6 c7 c8 c9 d0 d1 d2 d3 d4 d5 d6 d7 d8 d9
      go_wp2_with fail
      go_meet
      refine ⟨rfl, ⟨?_⟩⟩
      have k := HN.out.put hsz 4 5 0 (.int .u16 l1) (.int .u16 h1) (.bool f1)
      simp only [List.setIfInBounds_toArray, List.set_cons_zero, List.set_cons_succ] at k
      exact k
    obtain ⟨rfl, HJ⟩ := hcut
    clear HI
    have HI := HJ
    clear HJ
    go_upto_region 4 with fail
    go_cut [7] (fun s7 wy => s7 = .pointer (some ⟨t, 0, none⟩) ∧ Sd (MeetI M w.heap.size g t a b #[.int .u32 ((max a.src.lo b.src.lo : Nat) : Int), .int .u32 ((min a.src.hi b.src.hi : Nat) : Int), .int .u32 ((max a.dst.lo b.dst.lo : Nat) : Int), .int .u32 ((min a.dst.hi b.dst.hi : Nat) : Int), .int .u16 l1, .int .u16 h1, .int .u16 l2, .int .u16 h2, .int .u8 0, .int .u8 0] #[.bool f1, .bool f2, .bool false] wy))
    case first =>
      have HC := HI.out.cells
      obtain ⟨c0, c1, c2, c3, c4, c5, c6, c7, c8, c9, d0, d1, d2, d3, d4, d5, d6, d7, d8, d9⟩ := HC
      go_wp2_with fail
      refine (HK2.out _).mono ?_
      rintro e w4 ⟨rfl, hb⟩
      have hI := HI.out.move hb
      have HN := Sd.mk hI
      have g1 := hI.bg.cell (i := 6) rfl
      have g2 := hI.bg.cell (i := 7) rfl
      have gf := hI.bg.frozen
      have gl := hI.bg.lt
      have t1 := hI.bt.cell (i := 1) rfl
      have tf := hI.bt.frozen
      have tl := hI.bt.lt
      clear hI hb c0 c1 c2 c3 c4 c5 c6 c7 c8 c9 d0 d1 d2 d3 d4 d5 d6 d7 d8 d9
      go_wp2_with fail
      go_meet
      refine ⟨rfl, ⟨?_⟩⟩
      have k := HN.out.put hsz 6 7 1 (.int .u16 l2) (.int .u16 h2) (.bool f2)
      simp only [List.setIfInBounds_toArray, List.set_cons_zero, List.set_cons_succ] at k
      exact k
    obtain ⟨rfl, HJ⟩ := hcut
    clear HI
    have HI := HJ
    clear HJ
    go_upto_region 5 with fail
    go_cut [7] (fun s7 wy => s7 = .pointer (some ⟨t, 0, none⟩) ∧ Sd (MeetI M w.heap.size g t a b #[.int .u32 ((max a.src.lo b.src.lo : Nat) : Int), .int .u32 ((min a.src.hi b.src.hi : Nat) : Int), .int .u32 ((max a.dst.lo b.dst.lo : Nat) : Int), .int .u32 ((min a.dst.hi b.dst.hi : Nat) : Int), .int .u16 l1, .int .u16 h1, .int .u16 l2, .int .u16 h2, .int .u8 l3, .int .u8 h3] #[.bool f1, .bool f2, .bool f3] wy))
    case first =>
      have HC := HI.out.cells
      obtain ⟨c0, c1, c2, c3, c4, c5, c6, c7, c8, c9, d0, d1, d2, d3, d4, d5, d6, d7, d8, d9⟩ := HC
      go_wp2_with fail
      refine (HK3.out _).mono ?_
      rintro e w4 ⟨rfl, hb⟩
      have hI := HI.out.move hb
      have HN := Sd.mk hI
      have g1 := hI.bg.cell (i := 8) rfl
      have g2 := hI.bg.cell (i := 9) rfl
      have gf := hI.bg.frozen
      have gl := hI.bg.lt
      have t1 := hI.bt.cell (i := 2) rfl
      have tf := hI.bt.frozen
      have tl := hI.bt.lt
      clear hI hb c0 c1 c2 c3 c4 c5 c6 c7 c8 c9 d0 d1 d2 d3 d4 d5 d6 d7 d8 d9
      go_wp2_with fail
      go_meet
      refine ⟨rfl, ⟨?_⟩⟩
      have k := HN.out.put hsz 8 9 2 (.int .u8 l3) (.int .u8 h3) (.bool f3)
      simp only [List.setIfInBounds_toArray, List.set_cons_zero, List.set_cons_succ] at k
      exact k
    obtain ⟨rfl, HJ⟩ := hcut
    clear HI
    have HI := HJ
    clear HJ

    go_upto_region 6 with fail
    have HI2 : Sd (MeetI M w.heap.size g t a b #[.int .u32 (⟨a.src.meet b.src, a.dst.meet b.dst, ⟨l1, h1⟩, ⟨l2, h2⟩, ⟨l3, h3⟩⟩ : Bx).src.lo, .int .u32 (⟨a.src.meet b.src, a.dst.meet b.dst, ⟨l1, h1⟩, ⟨l2, h2⟩, ⟨l3, h3⟩⟩ : Bx).src.hi, .int .u32 (⟨a.src.meet b.src, a.dst.meet b.dst, ⟨l1, h1⟩, ⟨l2, h2⟩, ⟨l3, h3⟩⟩ : Bx).dst.lo, .int .u32 (⟨a.src.meet b.src, a.dst.meet b.dst, ⟨l1, h1⟩, ⟨l2, h2⟩, ⟨l3, h3⟩⟩ : Bx).dst.hi, .int .u16 (⟨a.src.meet b.src, a.dst.meet b.dst, ⟨l1, h1⟩, ⟨l2, h2⟩, ⟨l3, h3⟩⟩ : Bx).sp.lo, .int .u16 (⟨a.src.meet b.src, a.dst.meet b.dst, ⟨l1, h1⟩, ⟨l2, h2⟩, ⟨l3, h3⟩⟩ : Bx).sp.hi, .int .u16 (⟨a.src.meet b.src, a.dst.meet b.dst, ⟨l1, h1⟩, ⟨l2, h2⟩, ⟨l3, h3⟩⟩ : Bx).dp.lo, .int .u16 (⟨a.src.meet b.src, a.dst.meet b.dst, ⟨l1, h1⟩, ⟨l2, h2⟩, ⟨l3, h3⟩⟩ : Bx).dp.hi, .int .u8 (⟨a.src.meet b.src, a.dst.meet b.dst, ⟨l1, h1⟩, ⟨l2, h2⟩, ⟨l3, h3⟩⟩ : Bx).pr.v, .int .u8 (⟨a.src.meet b.src, a.dst.meet b.dst, ⟨l1, h1⟩, ⟨l2, h2⟩, ⟨l3, h3⟩⟩ : Bx).pr.c] #[.bool f1, .bool f2, .bool f3] wc) := HI
    clear HI
    have HI := HI2
    clear HI2
    have hms : a.meets b = ((f1 && f2 && f3) && decide (a.ck = 0) && decide (b.ck = 0) && decide ((a.join b).ck = 0)) := by unfold Bx.meets; rw [HE1.out, HE2.out, HE3.out]
    have HMS := Sd.mk hms
    clear hms
    cases f1 with
    | false =>
      have HME : Sd (a.meets b = false ∧ a.meet b = Bx.zero) := ⟨by have h := HMS.out; simp at h; exact ⟨h, by unfold Bx.meet; rw [if_neg (by rw [h]; simp)]⟩⟩
      have KS := meetS HI.out
      have HKS := Sd.mk KS

      clear KS
      have hq : ∀ W, (binOp .neq 159 (.agg #[.bool false, .bool f2, .bool f3]) (.agg #[.bool true, .bool true, .bool true])).run Try.prog W = .ok (.bool true) W := fun W => neq3 false f2 f3 W
      have hg := guard3 false f2 f3
      refine wp_region_listC (C := MeetS wc w.heap.size g t a b (⟨a.src.meet b.src, a.dst.meet b.dst, ⟨l1, h1⟩, ⟨l2, h2⟩, ⟨l3, h3⟩⟩ : Bx) false f2 f3) (HKS.out _ (Below.refl _ _)) ?_
      repeat (first
        | go_big_quiet_skip
        | (go_big_quiet_want
           first
             | (refine quiet_run ?_
                apply Exists.intro
                refine ⟨fun w hw => ?_, ?_⟩
                · ((unfold MeetS at hw); go_split_ands; go_simp; (try with_reducible rfl))
                go_big_quiet_on
                try simp only [Act.put, List.setIfInBounds_toArray, List.set_cons_zero, List.set_cons_succ])))
      refine wpQuiet_nil ?_
      intro W hW
      have hJ := HI.out.move hW.1
      have HWW : Sd (Below w.heap.size w W) := ⟨beyond HWM.out hJ.bel⟩
      have r := hJ.br
      obtain ⟨q0, q1, q2, q3, q4, q5, q6, q7, q8, q9⟩ := show W.cell? ⟨w.heap.size + 1 + 1, 0, none⟩ = some (.int .u32 Bx.zero.src.lo) ∧ W.cell? ⟨w.heap.size + 1 + 1, 1, none⟩ = some (.int .u32 Bx.zero.src.hi) ∧ W.cell? ⟨w.heap.size + 1 + 1, 2, none⟩ = some (.int .u32 Bx.zero.dst.lo) ∧ W.cell? ⟨w.heap.size + 1 + 1, 3, none⟩ = some (.int .u32 Bx.zero.dst.hi) ∧ W.cell? ⟨w.heap.size + 1 + 1, 4, none⟩ = some (.int .u16 Bx.zero.sp.lo) ∧ W.cell? ⟨w.heap.size + 1 + 1, 5, none⟩ = some (.int .u16 Bx.zero.sp.hi) ∧ W.cell? ⟨w.heap.size + 1 + 1, 6, none⟩ = some (.int .u16 Bx.zero.dp.lo) ∧ W.cell? ⟨w.heap.size + 1 + 1, 7, none⟩ = some (.int .u16 Bx.zero.dp.hi) ∧ W.cell? ⟨w.heap.size + 1 + 1, 8, none⟩ = some (.int .u8 Bx.zero.pr.v) ∧ W.cell? ⟨w.heap.size + 1 + 1, 9, none⟩ = some (.int .u8 Bx.zero.pr.c) from ⟨r.cell (i := 0) rfl, r.cell (i := 1) rfl, r.cell (i := 2) rfl, r.cell (i := 3) rfl, r.cell (i := 4) rfl, r.cell (i := 5) rfl, r.cell (i := 6) rfl, r.cell (i := 7) rfl, r.cell (i := 8) rfl, r.cell (i := 9) rfl⟩
      have rf := hJ.br.frozen
      have rl := hJ.br.lt
      obtain ⟨_, _, _, ⟨m0, m1, m2, m3, m4, m5, m6, m7, m8, m9⟩, _⟩ := hW
      clear hJ r
      go_wp2
      rw [HME.out.1, HME.out.2]
      refine bodyPost_ret (v := .tuple #[.agg #[.int .u32 0, .int .u32 0, .int .u32 0, .int .u32 0, .int .u16 0, .int .u16 0, .int .u16 0, .int .u16 0, .int .u8 0, .int .u8 0], .bool false]) (by simp [results, Try.results66, go_sem, *]) rfl ⟨rfl, ?_⟩
      iterate 10 refine below_set ?_ (by omega)
      exact HWW.out
    | true =>
    cases f2 with
    | false =>
      have HME : Sd (a.meets b = false ∧ a.meet b = Bx.zero) := ⟨by have h := HMS.out; simp at h; exact ⟨h, by unfold Bx.meet; rw [if_neg (by rw [h]; simp)]⟩⟩
      have KS := meetS HI.out
      have HKS := Sd.mk KS

      clear KS
      have hq : ∀ W, (binOp .neq 159 (.agg #[.bool true, .bool false, .bool f3]) (.agg #[.bool true, .bool true, .bool true])).run Try.prog W = .ok (.bool true) W := fun W => neq3 true false f3 W
      have hg := guard3 true false f3
      refine wp_region_listC (C := MeetS wc w.heap.size g t a b (⟨a.src.meet b.src, a.dst.meet b.dst, ⟨l1, h1⟩, ⟨l2, h2⟩, ⟨l3, h3⟩⟩ : Bx) true false f3) (HKS.out _ (Below.refl _ _)) ?_
      repeat (first
        | go_big_quiet_skip
        | (go_big_quiet_want
           first
             | (refine quiet_run ?_
                apply Exists.intro
                refine ⟨fun w hw => ?_, ?_⟩
                · ((unfold MeetS at hw); go_split_ands; go_simp; (try with_reducible rfl))
                go_big_quiet_on
                try simp only [Act.put, List.setIfInBounds_toArray, List.set_cons_zero, List.set_cons_succ])))
      refine wpQuiet_nil ?_
      intro W hW
      have hJ := HI.out.move hW.1
      have HWW : Sd (Below w.heap.size w W) := ⟨beyond HWM.out hJ.bel⟩
      have r := hJ.br
      obtain ⟨q0, q1, q2, q3, q4, q5, q6, q7, q8, q9⟩ := show W.cell? ⟨w.heap.size + 1 + 1, 0, none⟩ = some (.int .u32 Bx.zero.src.lo) ∧ W.cell? ⟨w.heap.size + 1 + 1, 1, none⟩ = some (.int .u32 Bx.zero.src.hi) ∧ W.cell? ⟨w.heap.size + 1 + 1, 2, none⟩ = some (.int .u32 Bx.zero.dst.lo) ∧ W.cell? ⟨w.heap.size + 1 + 1, 3, none⟩ = some (.int .u32 Bx.zero.dst.hi) ∧ W.cell? ⟨w.heap.size + 1 + 1, 4, none⟩ = some (.int .u16 Bx.zero.sp.lo) ∧ W.cell? ⟨w.heap.size + 1 + 1, 5, none⟩ = some (.int .u16 Bx.zero.sp.hi) ∧ W.cell? ⟨w.heap.size + 1 + 1, 6, none⟩ = some (.int .u16 Bx.zero.dp.lo) ∧ W.cell? ⟨w.heap.size + 1 + 1, 7, none⟩ = some (.int .u16 Bx.zero.dp.hi) ∧ W.cell? ⟨w.heap.size + 1 + 1, 8, none⟩ = some (.int .u8 Bx.zero.pr.v) ∧ W.cell? ⟨w.heap.size + 1 + 1, 9, none⟩ = some (.int .u8 Bx.zero.pr.c) from ⟨r.cell (i := 0) rfl, r.cell (i := 1) rfl, r.cell (i := 2) rfl, r.cell (i := 3) rfl, r.cell (i := 4) rfl, r.cell (i := 5) rfl, r.cell (i := 6) rfl, r.cell (i := 7) rfl, r.cell (i := 8) rfl, r.cell (i := 9) rfl⟩
      have rf := hJ.br.frozen
      have rl := hJ.br.lt
      obtain ⟨_, _, _, ⟨m0, m1, m2, m3, m4, m5, m6, m7, m8, m9⟩, _⟩ := hW
      clear hJ r
      go_wp2
      rw [HME.out.1, HME.out.2]
      refine bodyPost_ret (v := .tuple #[.agg #[.int .u32 0, .int .u32 0, .int .u32 0, .int .u32 0, .int .u16 0, .int .u16 0, .int .u16 0, .int .u16 0, .int .u8 0, .int .u8 0], .bool false]) (by simp [results, Try.results66, go_sem, *]) rfl ⟨rfl, ?_⟩
      iterate 10 refine below_set ?_ (by omega)
      exact HWW.out
    | true =>
    cases f3 with
    | false =>
      have HME : Sd (a.meets b = false ∧ a.meet b = Bx.zero) := ⟨by have h := HMS.out; simp at h; exact ⟨h, by unfold Bx.meet; rw [if_neg (by rw [h]; simp)]⟩⟩
      have KS := meetS HI.out
      have HKS := Sd.mk KS

      clear KS
      have hq : ∀ W, (binOp .neq 159 (.agg #[.bool true, .bool true, .bool false]) (.agg #[.bool true, .bool true, .bool true])).run Try.prog W = .ok (.bool true) W := fun W => neq3 true true false W
      have hg := guard3 true true false
      refine wp_region_listC (C := MeetS wc w.heap.size g t a b (⟨a.src.meet b.src, a.dst.meet b.dst, ⟨l1, h1⟩, ⟨l2, h2⟩, ⟨l3, h3⟩⟩ : Bx) true true false) (HKS.out _ (Below.refl _ _)) ?_
      repeat (first
        | go_big_quiet_skip
        | (go_big_quiet_want
           first
             | (refine quiet_run ?_
                apply Exists.intro
                refine ⟨fun w hw => ?_, ?_⟩
                · ((unfold MeetS at hw); go_split_ands; go_simp; (try with_reducible rfl))
                go_big_quiet_on
                try simp only [Act.put, List.setIfInBounds_toArray, List.set_cons_zero, List.set_cons_succ])))
      refine wpQuiet_nil ?_
      intro W hW
      have hJ := HI.out.move hW.1
      have HWW : Sd (Below w.heap.size w W) := ⟨beyond HWM.out hJ.bel⟩
      have r := hJ.br
      obtain ⟨q0, q1, q2, q3, q4, q5, q6, q7, q8, q9⟩ := show W.cell? ⟨w.heap.size + 1 + 1, 0, none⟩ = some (.int .u32 Bx.zero.src.lo) ∧ W.cell? ⟨w.heap.size + 1 + 1, 1, none⟩ = some (.int .u32 Bx.zero.src.hi) ∧ W.cell? ⟨w.heap.size + 1 + 1, 2, none⟩ = some (.int .u32 Bx.zero.dst.lo) ∧ W.cell? ⟨w.heap.size + 1 + 1, 3, none⟩ = some (.int .u32 Bx.zero.dst.hi) ∧ W.cell? ⟨w.heap.size + 1 + 1, 4, none⟩ = some (.int .u16 Bx.zero.sp.lo) ∧ W.cell? ⟨w.heap.size + 1 + 1, 5, none⟩ = some (.int .u16 Bx.zero.sp.hi) ∧ W.cell? ⟨w.heap.size + 1 + 1, 6, none⟩ = some (.int .u16 Bx.zero.dp.lo) ∧ W.cell? ⟨w.heap.size + 1 + 1, 7, none⟩ = some (.int .u16 Bx.zero.dp.hi) ∧ W.cell? ⟨w.heap.size + 1 + 1, 8, none⟩ = some (.int .u8 Bx.zero.pr.v) ∧ W.cell? ⟨w.heap.size + 1 + 1, 9, none⟩ = some (.int .u8 Bx.zero.pr.c) from ⟨r.cell (i := 0) rfl, r.cell (i := 1) rfl, r.cell (i := 2) rfl, r.cell (i := 3) rfl, r.cell (i := 4) rfl, r.cell (i := 5) rfl, r.cell (i := 6) rfl, r.cell (i := 7) rfl, r.cell (i := 8) rfl, r.cell (i := 9) rfl⟩
      have rf := hJ.br.frozen
      have rl := hJ.br.lt
      obtain ⟨_, _, _, ⟨m0, m1, m2, m3, m4, m5, m6, m7, m8, m9⟩, _⟩ := hW
      clear hJ r
      go_wp2
      rw [HME.out.1, HME.out.2]
      refine bodyPost_ret (v := .tuple #[.agg #[.int .u32 0, .int .u32 0, .int .u32 0, .int .u32 0, .int .u16 0, .int .u16 0, .int .u16 0, .int .u16 0, .int .u8 0, .int .u8 0], .bool false]) (by simp [results, Try.results66, go_sem, *]) rfl ⟨rfl, ?_⟩
      iterate 10 refine below_set ?_ (by omega)
      exact HWW.out
    | true =>
    obtain ⟨rfl, rfl⟩ := HP1.out HE1.out
    obtain ⟨rfl, rfl⟩ := HP2.out HE2.out
    obtain ⟨rfl, rfl⟩ := HP3.out HE3.out
    have HI2 : Sd (MeetI M w.heap.size g t a b #[.int .u32 (a.join b).src.lo, .int .u32 (a.join b).src.hi, .int .u32 (a.join b).dst.lo, .int .u32 (a.join b).dst.hi, .int .u16 (a.join b).sp.lo, .int .u16 (a.join b).sp.hi, .int .u16 (a.join b).dp.lo, .int .u16 (a.join b).dp.hi, .int .u8 (a.join b).pr.v, .int .u8 (a.join b).pr.c] #[.bool true, .bool true, .bool true] wc) := HI
    clear HI
    have HI := HI2
    clear HI2
    have G1 := boxMay_any a HWA.out
    have G2 := boxMay_any b HWB.out
    have G3 := boxMay_any (a.join b) (Bx.join_wf HWA.out HWB.out)
    by_cases d1 : a.ck = 0
    rotate_left
    ·
      have HME : Sd (a.meets b = false ∧ a.meet b = Bx.zero) := ⟨by have h := HMS.out; simp [d1] at h; exact ⟨h, by unfold Bx.meet; rw [if_neg (by rw [h]; simp)]⟩⟩
      rw [decide_eq_false d1] at G1
      have KS := meetS HI.out
      have HKS := Sd.mk KS
      have H1 := Sd.mk (heldS (fun _ h => h.1) KS G1)
      clear KS
      have hq : ∀ W, (binOp .neq 159 (.agg #[.bool true, .bool true, .bool true]) (.agg #[.bool true, .bool true, .bool true])).run Try.prog W = .ok (.bool false) W := fun W => neq3 true true true W
      have hg := guard3 true true true
      refine wp_region_listC (C := MeetS wc w.heap.size g t a b (a.join b) true true true) (HKS.out _ (Below.refl _ _)) ?_
      repeat (first
        | go_big_quiet_skip
        | (go_big_quiet_want
           first
             | (refine quiet_run ?_
                apply Exists.intro
                refine ⟨fun w hw => ?_, ?_⟩
                · ((unfold MeetS at hw); go_split_ands; go_simp; (try with_reducible rfl))
                go_big_quiet_on
                try simp only [Act.put, List.setIfInBounds_toArray, List.set_cons_zero, List.set_cons_succ])
             | (apply Exists.intro
                refine ⟨fun w hw => ?_, ?_⟩
                · (unfold Oper.quietAt; go_simp; first | (with_reducible exact H1.out _ hw))
                go_big_quiet_on
                try simp only [Act.put, List.setIfInBounds_toArray, List.set_cons_zero, List.set_cons_succ])))
      refine wpQuiet_nil ?_
      intro W hW
      have hJ := HI.out.move hW.1
      have HWW : Sd (Below w.heap.size w W) := ⟨beyond HWM.out hJ.bel⟩
      have r := hJ.br
      obtain ⟨q0, q1, q2, q3, q4, q5, q6, q7, q8, q9⟩ := show W.cell? ⟨w.heap.size + 1 + 1, 0, none⟩ = some (.int .u32 Bx.zero.src.lo) ∧ W.cell? ⟨w.heap.size + 1 + 1, 1, none⟩ = some (.int .u32 Bx.zero.src.hi) ∧ W.cell? ⟨w.heap.size + 1 + 1, 2, none⟩ = some (.int .u32 Bx.zero.dst.lo) ∧ W.cell? ⟨w.heap.size + 1 + 1, 3, none⟩ = some (.int .u32 Bx.zero.dst.hi) ∧ W.cell? ⟨w.heap.size + 1 + 1, 4, none⟩ = some (.int .u16 Bx.zero.sp.lo) ∧ W.cell? ⟨w.heap.size + 1 + 1, 5, none⟩ = some (.int .u16 Bx.zero.sp.hi) ∧ W.cell? ⟨w.heap.size + 1 + 1, 6, none⟩ = some (.int .u16 Bx.zero.dp.lo) ∧ W.cell? ⟨w.heap.size + 1 + 1, 7, none⟩ = some (.int .u16 Bx.zero.dp.hi) ∧ W.cell? ⟨w.heap.size + 1 + 1, 8, none⟩ = some (.int .u8 Bx.zero.pr.v) ∧ W.cell? ⟨w.heap.size + 1 + 1, 9, none⟩ = some (.int .u8 Bx.zero.pr.c) from ⟨r.cell (i := 0) rfl, r.cell (i := 1) rfl, r.cell (i := 2) rfl, r.cell (i := 3) rfl, r.cell (i := 4) rfl, r.cell (i := 5) rfl, r.cell (i := 6) rfl, r.cell (i := 7) rfl, r.cell (i := 8) rfl, r.cell (i := 9) rfl⟩
      have rf := hJ.br.frozen
      have rl := hJ.br.lt
      obtain ⟨_, _, _, ⟨m0, m1, m2, m3, m4, m5, m6, m7, m8, m9⟩, _⟩ := hW
      clear hJ r
      go_wp2
      rw [HME.out.1, HME.out.2]
      refine bodyPost_ret (v := .tuple #[.agg #[.int .u32 0, .int .u32 0, .int .u32 0, .int .u32 0, .int .u16 0, .int .u16 0, .int .u16 0, .int .u16 0, .int .u8 0, .int .u8 0], .bool false]) (by simp [results, Try.results66, go_sem, *]) rfl ⟨rfl, ?_⟩
      iterate 10 refine below_set ?_ (by omega)
      exact HWW.out
    rw [decide_eq_true d1] at G1
    by_cases d2 : b.ck = 0
    rotate_left
    ·
      have HME : Sd (a.meets b = false ∧ a.meet b = Bx.zero) := ⟨by have h := HMS.out; simp [d2] at h; exact ⟨h, by unfold Bx.meet; rw [if_neg (by rw [h]; simp)]⟩⟩
      rw [decide_eq_false d2] at G2
      have KS := meetS HI.out
      have HKS := Sd.mk KS
      have H1 := Sd.mk (heldS (fun _ h => h.1) KS G1)
      have H2 := Sd.mk (heldS (fun _ h => h.1) KS G2)
      clear KS
      have hq : ∀ W, (binOp .neq 159 (.agg #[.bool true, .bool true, .bool true]) (.agg #[.bool true, .bool true, .bool true])).run Try.prog W = .ok (.bool false) W := fun W => neq3 true true true W
      have hg := guard3 true true true
      refine wp_region_listC (C := MeetS wc w.heap.size g t a b (a.join b) true true true) (HKS.out _ (Below.refl _ _)) ?_
      repeat (first
        | go_big_quiet_skip
        | (go_big_quiet_want
           first
             | (refine quiet_run ?_
                apply Exists.intro
                refine ⟨fun w hw => ?_, ?_⟩
                · ((unfold MeetS at hw); go_split_ands; go_simp; (try with_reducible rfl))
                go_big_quiet_on
                try simp only [Act.put, List.setIfInBounds_toArray, List.set_cons_zero, List.set_cons_succ])
             | (apply Exists.intro
                refine ⟨fun w hw => ?_, ?_⟩
                · (unfold Oper.quietAt; go_simp; first | (with_reducible exact H1.out _ hw) | (with_reducible exact H2.out _ hw))
                go_big_quiet_on
                try simp only [Act.put, List.setIfInBounds_toArray, List.set_cons_zero, List.set_cons_succ])))
      refine wpQuiet_nil ?_
      intro W hW
      have hJ := HI.out.move hW.1
      have HWW : Sd (Below w.heap.size w W) := ⟨beyond HWM.out hJ.bel⟩
      have r := hJ.br
      obtain ⟨q0, q1, q2, q3, q4, q5, q6, q7, q8, q9⟩ := show W.cell? ⟨w.heap.size + 1 + 1, 0, none⟩ = some (.int .u32 Bx.zero.src.lo) ∧ W.cell? ⟨w.heap.size + 1 + 1, 1, none⟩ = some (.int .u32 Bx.zero.src.hi) ∧ W.cell? ⟨w.heap.size + 1 + 1, 2, none⟩ = some (.int .u32 Bx.zero.dst.lo) ∧ W.cell? ⟨w.heap.size + 1 + 1, 3, none⟩ = some (.int .u32 Bx.zero.dst.hi) ∧ W.cell? ⟨w.heap.size + 1 + 1, 4, none⟩ = some (.int .u16 Bx.zero.sp.lo) ∧ W.cell? ⟨w.heap.size + 1 + 1, 5, none⟩ = some (.int .u16 Bx.zero.sp.hi) ∧ W.cell? ⟨w.heap.size + 1 + 1, 6, none⟩ = some (.int .u16 Bx.zero.dp.lo) ∧ W.cell? ⟨w.heap.size + 1 + 1, 7, none⟩ = some (.int .u16 Bx.zero.dp.hi) ∧ W.cell? ⟨w.heap.size + 1 + 1, 8, none⟩ = some (.int .u8 Bx.zero.pr.v) ∧ W.cell? ⟨w.heap.size + 1 + 1, 9, none⟩ = some (.int .u8 Bx.zero.pr.c) from ⟨r.cell (i := 0) rfl, r.cell (i := 1) rfl, r.cell (i := 2) rfl, r.cell (i := 3) rfl, r.cell (i := 4) rfl, r.cell (i := 5) rfl, r.cell (i := 6) rfl, r.cell (i := 7) rfl, r.cell (i := 8) rfl, r.cell (i := 9) rfl⟩
      have rf := hJ.br.frozen
      have rl := hJ.br.lt
      obtain ⟨_, _, _, ⟨m0, m1, m2, m3, m4, m5, m6, m7, m8, m9⟩, _⟩ := hW
      clear hJ r
      go_wp2
      rw [HME.out.1, HME.out.2]
      refine bodyPost_ret (v := .tuple #[.agg #[.int .u32 0, .int .u32 0, .int .u32 0, .int .u32 0, .int .u16 0, .int .u16 0, .int .u16 0, .int .u16 0, .int .u8 0, .int .u8 0], .bool false]) (by simp [results, Try.results66, go_sem, *]) rfl ⟨rfl, ?_⟩
      iterate 10 refine below_set ?_ (by omega)
      exact HWW.out
    rw [decide_eq_true d2] at G2
    by_cases d3 : (a.join b).ck = 0
    rotate_left
    ·
      have HME : Sd (a.meets b = false ∧ a.meet b = Bx.zero) := ⟨by have h := HMS.out; simp [d3] at h; exact ⟨h, by unfold Bx.meet; rw [if_neg (by rw [h]; simp)]⟩⟩
      rw [decide_eq_false d3] at G3
      have KS := meetS HI.out
      have HKS := Sd.mk KS
      have H1 := Sd.mk (heldS (fun _ h => h.1) KS G1)
      have H2 := Sd.mk (heldS (fun _ h => h.1) KS G2)
      have H3 := Sd.mk (heldS (fun _ h => h.1) KS G3)
      clear KS
      have hq : ∀ W, (binOp .neq 159 (.agg #[.bool true, .bool true, .bool true]) (.agg #[.bool true, .bool true, .bool true])).run Try.prog W = .ok (.bool false) W := fun W => neq3 true true true W
      have hg := guard3 true true true
      refine wp_region_listC (C := MeetS wc w.heap.size g t a b (a.join b) true true true) (HKS.out _ (Below.refl _ _)) ?_
      repeat (first
        | go_big_quiet_skip
        | (go_big_quiet_want
           first
             | (refine quiet_run ?_
                apply Exists.intro
                refine ⟨fun w hw => ?_, ?_⟩
                · ((unfold MeetS at hw); go_split_ands; go_simp; (try with_reducible rfl))
                go_big_quiet_on
                try simp only [Act.put, List.setIfInBounds_toArray, List.set_cons_zero, List.set_cons_succ])
             | (apply Exists.intro
                refine ⟨fun w hw => ?_, ?_⟩
                · (unfold Oper.quietAt; go_simp; first | (with_reducible exact H1.out _ hw) | (with_reducible exact H2.out _ hw) | (with_reducible exact H3.out _ hw))
                go_big_quiet_on
                try simp only [Act.put, List.setIfInBounds_toArray, List.set_cons_zero, List.set_cons_succ])))
      refine wpQuiet_nil ?_
      intro W hW
      have hJ := HI.out.move hW.1
      have HWW : Sd (Below w.heap.size w W) := ⟨beyond HWM.out hJ.bel⟩
      have r := hJ.br
      obtain ⟨q0, q1, q2, q3, q4, q5, q6, q7, q8, q9⟩ := show W.cell? ⟨w.heap.size + 1 + 1, 0, none⟩ = some (.int .u32 Bx.zero.src.lo) ∧ W.cell? ⟨w.heap.size + 1 + 1, 1, none⟩ = some (.int .u32 Bx.zero.src.hi) ∧ W.cell? ⟨w.heap.size + 1 + 1, 2, none⟩ = some (.int .u32 Bx.zero.dst.lo) ∧ W.cell? ⟨w.heap.size + 1 + 1, 3, none⟩ = some (.int .u32 Bx.zero.dst.hi) ∧ W.cell? ⟨w.heap.size + 1 + 1, 4, none⟩ = some (.int .u16 Bx.zero.sp.lo) ∧ W.cell? ⟨w.heap.size + 1 + 1, 5, none⟩ = some (.int .u16 Bx.zero.sp.hi) ∧ W.cell? ⟨w.heap.size + 1 + 1, 6, none⟩ = some (.int .u16 Bx.zero.dp.lo) ∧ W.cell? ⟨w.heap.size + 1 + 1, 7, none⟩ = some (.int .u16 Bx.zero.dp.hi) ∧ W.cell? ⟨w.heap.size + 1 + 1, 8, none⟩ = some (.int .u8 Bx.zero.pr.v) ∧ W.cell? ⟨w.heap.size + 1 + 1, 9, none⟩ = some (.int .u8 Bx.zero.pr.c) from ⟨r.cell (i := 0) rfl, r.cell (i := 1) rfl, r.cell (i := 2) rfl, r.cell (i := 3) rfl, r.cell (i := 4) rfl, r.cell (i := 5) rfl, r.cell (i := 6) rfl, r.cell (i := 7) rfl, r.cell (i := 8) rfl, r.cell (i := 9) rfl⟩
      have rf := hJ.br.frozen
      have rl := hJ.br.lt
      obtain ⟨_, _, _, ⟨m0, m1, m2, m3, m4, m5, m6, m7, m8, m9⟩, _⟩ := hW
      clear hJ r
      go_wp2
      rw [HME.out.1, HME.out.2]
      refine bodyPost_ret (v := .tuple #[.agg #[.int .u32 0, .int .u32 0, .int .u32 0, .int .u32 0, .int .u16 0, .int .u16 0, .int .u16 0, .int .u16 0, .int .u8 0, .int .u8 0], .bool false]) (by simp [results, Try.results66, go_sem, *]) rfl ⟨rfl, ?_⟩
      iterate 10 refine below_set ?_ (by omega)
      exact HWW.out
    rw [decide_eq_true d3] at G3
    ·
      have HME : Sd (a.meets b = true ∧ a.meet b = a.join b) := ⟨by have h := HMS.out; simp [d1, d2, d3] at h; exact ⟨h, by unfold Bx.meet; rw [if_pos h]⟩⟩
      have KS := meetS HI.out
      have HKS := Sd.mk KS
      have H1 := Sd.mk (heldS (fun _ h => h.1) KS G1)
      have H2 := Sd.mk (heldS (fun _ h => h.1) KS G2)
      have H3 := Sd.mk (heldS (fun _ h => h.1) KS G3)
      clear KS
      have hq : ∀ W, (binOp .neq 159 (.agg #[.bool true, .bool true, .bool true]) (.agg #[.bool true, .bool true, .bool true])).run Try.prog W = .ok (.bool false) W := fun W => neq3 true true true W
      have hg := guard3 true true true
      refine wp_region_listC (C := MeetS wc w.heap.size g t a b (a.join b) true true true) (HKS.out _ (Below.refl _ _)) ?_
      repeat (first
        | go_big_quiet_skip
        | (go_big_quiet_want
           first
             | (refine quiet_run ?_
                apply Exists.intro
                refine ⟨fun w hw => ?_, ?_⟩
                · ((unfold MeetS at hw); go_split_ands; go_simp; (try with_reducible rfl))
                go_big_quiet_on
                try simp only [Act.put, List.setIfInBounds_toArray, List.set_cons_zero, List.set_cons_succ])
             | (apply Exists.intro
                refine ⟨fun w hw => ?_, ?_⟩
                · (unfold Oper.quietAt; go_simp; first | (with_reducible exact H1.out _ hw) | (with_reducible exact H2.out _ hw) | (with_reducible exact H3.out _ hw))
                go_big_quiet_on
                try simp only [Act.put, List.setIfInBounds_toArray, List.set_cons_zero, List.set_cons_succ])))
      refine wpQuiet_nil ?_
      intro W hW
      have hJ := HI.out.move hW.1
      have HWW : Sd (Below w.heap.size w W) := ⟨beyond HWM.out hJ.bel⟩
      have r := hJ.br
      obtain ⟨q0, q1, q2, q3, q4, q5, q6, q7, q8, q9⟩ := show W.cell? ⟨w.heap.size + 1 + 1, 0, none⟩ = some (.int .u32 Bx.zero.src.lo) ∧ W.cell? ⟨w.heap.size + 1 + 1, 1, none⟩ = some (.int .u32 Bx.zero.src.hi) ∧ W.cell? ⟨w.heap.size + 1 + 1, 2, none⟩ = some (.int .u32 Bx.zero.dst.lo) ∧ W.cell? ⟨w.heap.size + 1 + 1, 3, none⟩ = some (.int .u32 Bx.zero.dst.hi) ∧ W.cell? ⟨w.heap.size + 1 + 1, 4, none⟩ = some (.int .u16 Bx.zero.sp.lo) ∧ W.cell? ⟨w.heap.size + 1 + 1, 5, none⟩ = some (.int .u16 Bx.zero.sp.hi) ∧ W.cell? ⟨w.heap.size + 1 + 1, 6, none⟩ = some (.int .u16 Bx.zero.dp.lo) ∧ W.cell? ⟨w.heap.size + 1 + 1, 7, none⟩ = some (.int .u16 Bx.zero.dp.hi) ∧ W.cell? ⟨w.heap.size + 1 + 1, 8, none⟩ = some (.int .u8 Bx.zero.pr.v) ∧ W.cell? ⟨w.heap.size + 1 + 1, 9, none⟩ = some (.int .u8 Bx.zero.pr.c) from ⟨r.cell (i := 0) rfl, r.cell (i := 1) rfl, r.cell (i := 2) rfl, r.cell (i := 3) rfl, r.cell (i := 4) rfl, r.cell (i := 5) rfl, r.cell (i := 6) rfl, r.cell (i := 7) rfl, r.cell (i := 8) rfl, r.cell (i := 9) rfl⟩
      have rf := hJ.br.frozen
      have rl := hJ.br.lt
      obtain ⟨_, _, _, ⟨m0, m1, m2, m3, m4, m5, m6, m7, m8, m9⟩, _⟩ := hW
      clear hJ r
      go_wp2
      rw [HME.out.1, HME.out.2]
      refine bodyPost_ret (v := .tuple #[.agg #[.int .u32 (a.join b).src.lo, .int .u32 (a.join b).src.hi, .int .u32 (a.join b).dst.lo, .int .u32 (a.join b).dst.hi, .int .u16 (a.join b).sp.lo, .int .u16 (a.join b).sp.hi, .int .u16 (a.join b).dp.lo, .int .u16 (a.join b).dp.hi, .int .u8 (a.join b).pr.v, .int .u8 (a.join b).pr.c], .bool true]) (by simp [results, Try.results66, go_sem, *]) rfl ⟨rfl, ?_⟩
      iterate 10 refine below_set ?_ (by omega)
      exact HWW.out
end Go.Proofs.Ytljliopmphaoeaa
