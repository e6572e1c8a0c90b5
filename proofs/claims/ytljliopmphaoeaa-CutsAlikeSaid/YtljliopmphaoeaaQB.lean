/- Words that all walks of this seat use. -/
import Derived.WalkKit
import Derived.WalkSpells
import Derived.WalkLawsBesides
import Derived.ChangeAlike
import Derived.Below
import Derived.LoopTactic
import Derived.BigQuiet
import Derived.IntWalk
import Derived.Deep.QuietTactic
import Derived.Deep.RegionHeld3
import Derived.StillTailTactics
import Derived.BigRegion
import Derived.Laws.BitsAllLaws
import Derived.Outline
import Derived.Test.YtljliopmphaoeaaProg
import Derived.Test.YtljliopmphaoeaaBlk
import Derived.Test.YtljliopmphaoeaaQP
namespace Go.Proofs.Ytljliopmphaoeaa
open Go Go.RowKit

/-- a fact that the walk does not use -/
structure Sd (p : Prop) : Prop where out : p
theorem ret_int {k : IntKind} {a b : Int} (h : a = b) : Ending.returned (.int k a) = .returned (.int k b) := by rw [h]
theorem ret_bool {a b : Bool} (h : a = b) : Ending.returned (.bool a) = .returned (.bool b) := by rw [h]
theorem bcell {W w1 : World} (hb : Below W.heap.size W w1) : (∀ b o, b < W.heap.size → w1.cell? ⟨b, o, none⟩ = W.cell? ⟨b, o, none⟩) ∧ (∀ b o, b < W.heap.size → w1.frozen? ⟨b, o, none⟩ = W.frozen? ⟨b, o, none⟩) :=
  ⟨fun b o h => hb.cell (p := ⟨b, o, none⟩) h, fun b o h => hb.frozen (p := ⟨b, o, none⟩) h⟩
theorem beyond {w M W : World} (h : Below w.heap.size w M) (k : Below M.heap.size M W) : Below w.heap.size w W := h.trans (k.mono h.size)
/-- a contract, in every world beyond one -/
theorem held {P : Program} {f : FuncId} {args : Array Value} {r : Value} (K : ∀ W, Calls P f args W fun e w' => e = .returned r ∧ Below W.heap.size W w') (M W : World) (hW : Below M.heap.size M W) :
    Calls P f args W fun e w' => e = .returned r ∧ Below M.heap.size M w' := (K W).mono fun _ _ h => ⟨h.1, beyond hW h.2⟩
theorem held_same {P : Program} {f : FuncId} {args : Array Value} {r : Value} (K : ∀ W, Calls P f args W fun e w' => e = .returned r ∧ W = w') (M W : World) (hW : Below M.heap.size M W) :
    Calls P f args W fun e w' => e = .returned r ∧ Below M.heap.size M w' := (K W).mono fun _ _ h => ⟨h.1, h.2 ▸ hW⟩
theorem quiet_same {P : Program} {f : FuncId} {args : Array Value} {r : Value} {w : World} {n : Nat} (K : ∀ W, Calls P f args W fun e w' => e = .returned r ∧ W = w') :
    Calls P f args (w.drewN n) fun e w'' => e = .returned r ∧ ∃ m, w'' = w.drewN m := (K _).mono fun _ _ h => ⟨h.1, n, h.2.symm⟩

/-- of the blocks that were there, those outside S are as they were -/
structure Only (w w' : World) (S : Nat → Prop) : Prop where
  os : w'.os = w.os
  tape : w'.tape = w.tape
  output : w'.output = w.output
  size : w.heap.size ≤ w'.heap.size
  block : ∀ k, k < w.heap.size → ¬ S k → w'.heap[k]? = w.heap[k]?
section
variable {w w1 w2 : World} {S T : Nat → Prop}
theorem Only.refl (w : World) (S : Nat → Prop) : Only w w S := ⟨rfl, rfl, rfl, Nat.le_refl _, fun _ _ _ => rfl⟩
theorem Only.trans (h : Only w w1 S) (k : Only w1 w2 T) (hT : ∀ b, b < w.heap.size → T b → S b) : Only w w2 S :=
  ⟨k.os.trans h.os, k.tape.trans h.tape, k.output.trans h.output, Nat.le_trans h.size k.size, fun b hb hS => (k.block b (Nat.lt_of_lt_of_le hb h.size) (fun hx => hS (hT b hb hx))).trans (h.block b hb hS)⟩
theorem Only.mono (h : Only w w1 S) (hS : ∀ b, b < w.heap.size → S b → T b) : Only w w1 T := ⟨h.os, h.tape, h.output, h.size, fun b hb hT => h.block b hb (fun hx => hT (hS b hb hx))⟩
theorem Only.alloc (h : Only w w1 S) (o : Obj) : Only w (w1.alloc o) S :=
  h.trans (T := fun _ => False) ⟨rfl, rfl, rfl, by simp, fun k hk _ => Below.heap_alloc _ _ _ hk⟩ (fun _ _ h => h.elim)
theorem Only.setCell (h : Only w w1 S) (p : Addr) (u : Value) (hp : p.block < w.heap.size → S p.block) : Only w (w1.setCell p u) S :=
  h.trans (T := fun k => k = p.block) ⟨rfl, rfl, rfl, by simp, fun k _ hne => Below.heap_setCell _ _ _ _ hne⟩ (fun b hb e => by subst e; exact hp hb)
theorem Only.drew (h : Only w w1 S) : Only w w1.drew S := ⟨h.os, h.tape, h.output, h.size, h.block⟩
theorem Only.drewN (h : Only w w1 S) (n : Nat) : Only w (w1.drewN n) S := ⟨h.os, h.tape, h.output, h.size, h.block⟩
theorem Only.grown {row : Option Nat} (h : Only w w1 S) (hg : w1.grownBy w2 row) (hr : ∀ k, row = some k → k < w.heap.size → S k) : Only w w2 S :=
  h.trans (T := fun k => row = some k) ⟨hg.os, hg.tape, hg.output, hg.size, fun k hk hne => hg.block k hk (fun e => hne e.symm)⟩ (fun b hb e => hr b e hb)
theorem Only.below (h : Only w w1 S) (L : Nat) (hL : L ≤ w.heap.size) (hS : ∀ k, S k → L ≤ k) : Below L w w1 := ⟨h.os, h.tape, h.output, h.size, fun k hk => h.block k (by omega) (fun hx => by have := hS k hx; omega)⟩
theorem below_only (h : Below w.heap.size w w1) (S : Nat → Prop) : Only w w1 S := ⟨h.os, h.tape, h.output, h.size, fun k hk _ => h.block k hk⟩
theorem Blk.only {B : Nat} {cs : Array Value} {t : TypeId} (h : Blk w B cs t) (ho : Only w w1 S) (hS : ¬ S B) : Blk w1 B cs t := (ho.block B h.lt hS).trans h
theorem ownsRow_only {base : Nat} {e : TypeId} {size : Nat} {v : Value} {n : Nat} {xs : List Value} (h : w.ownsRow base e size v n xs) (ho : Only w w1 S) (hS : ∀ g, v.ownBlock = some g → ¬ S g) : w1.ownsRow base e size v n xs := by
  have hl := h.lt
  obtain ⟨h1, h2⟩ := h
  refine ⟨h1, ?_⟩
  rcases h2 with h2 | ⟨g, cap, cur, rfl, r2, r3, r⟩
  · exact .inl h2
  · exact .inr ⟨g, cap, cur, rfl, r2, (ho.block g (hl g rfl).2 (hS g rfl)).trans r3, r⟩
end
section
variable {P : Program} {ops : Array Oper} {C : World → Prop} {a : Act} {o : Oper}
theorem quiet_run {K : Act → Prop} (h : ∃ v, (∀ w, C w → (execOp a.eval o).run P w = .ok (.value v) w) ∧ K (a.put o.dst v)) : o.quiet P a C K := by
  obtain ⟨v, h1, h2⟩ := h
  exact ⟨v, fun w hw => by unfold Oper.quietAt; rw [h1 w hw]; exact ⟨rfl, rfl⟩, h2⟩
/-- a region that draws its order, whose operations yield one value in every world of a class -/
theorem wp_region_quietC {id : Nat} {Q : Exit → Act → World → Prop} {w : World} {l : List Oper} {C : World → Prop} (hm : P.follows .mixedOrders = true) (hB : Region.lexB .any l.toArray = true) (hC : C w.drew)
    (h : wpQuiet P l.toArray C (fun a' => ∀ w', C w' → Q .normal a' w') l a) : (Code.region id l.toArray true).wp P Q a w :=
  wp_region_quiet (C := C) hm hB hC (by simpa using h)
theorem wpList_of_quiet {Q : Act → Prop} {Q' : Exit → Act → World → Prop} (hQ : ∀ a w, C w → Q a → Q' .normal a w) : ∀ (l : List Oper) (a : Act) (w : World), C w → wpQuiet P ops C Q l a → wpList P ops Q' l a w
  | [], a, w, hw, h => hQ a w hw h
  | o :: l, a, w, hw, h => by
    unfold wpList
    unfold wpQuiet at h
    split
    · rename_i hwt
      rw [if_pos hwt] at h
      exact .inl (Oper.wp_of_quiet hw (fun a' w' hw' h' => wpList_of_quiet hQ l a' w' hw' h') h)
    · rename_i hwt
      rw [if_neg hwt] at h
      exact wpList_of_quiet hQ l _ w hw h
/-- the same for a region that does not draw -/
theorem wp_region_listC {id : Nat} {Q : Exit → Act → World → Prop} {w : World} {l : List Oper} {C : World → Prop} (hC : C w)
    (h : wpQuiet P l.toArray C (fun a' => ∀ w', C w' → Q .normal a' w') l a) : (Code.region id l.toArray false).wp P Q a w :=
  wp_region_lit (wpList_of_quiet (fun _ w' hw' h => h w' hw') l a w hC h)
end
theorem nat_beq (a b : Nat) : ((a : Int) == (b : Int)) = decide (a = b) := by rw [Bool.eq_iff_iff]; simp; omega
theorem nat_bne (a b : Nat) : ((a : Int) != (b : Int)) = decide (a ≠ b) := by rw [Bool.eq_iff_iff]; simp; omega
/-- a struct of two cells, beyond the world in which it was laid -/
theorem keep2 {M : World} {B : Nat} {T : TypeId} {c0 c1 : Value} (hB : Blk M B #[c0, c1] T) (W : World) (h : Below M.heap.size M W) : Below M.heap.size M W ∧ W.cell? ⟨B, 0, none⟩ = some c0 ∧ W.cell? ⟨B, 1, none⟩ = some c1 :=
  ⟨h, (hB.below h hB.lt).cell (i := 0) rfl, (hB.below h hB.lt).cell (i := 1) rfl⟩
end Go.Proofs.Ytljliopmphaoeaa
